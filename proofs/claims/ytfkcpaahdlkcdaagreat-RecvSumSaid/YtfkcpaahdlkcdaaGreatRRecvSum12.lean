import Derived.Test.YtfkcpaahdlkcdaaGreatRRecvSum10
import Derived.Test.YtfkcpaahdlkcdaaGreatRRecvSum11
set_option linter.unusedSimpArgs false
set_option linter.unusedVariables false
set_option maxRecDepth 100000
set_option maxHeartbeats 16000000
namespace Go.Proofs.YtfkcpaahdlkcdaaGreat
open Go.RowKit
theorem zwJ (x:Int) (l:List Int) (ad:Addr) (n c:Nat) (deep:Nat) (v w:World) (hv:Grow v w) (h:SliceR 1 (.slice (some ad) n c) n (u8s (x :: l)) v) (hn:n=l.length+1) (hl:l.length≤1000000) (hx:0≤x∧x≤255) (hu:okU l) (hd:deep≠0) (hc1:¬ (c=1)) (d:Nat) (hde:(deep:Int)-1=d) (hdl:deep≤1000) (IH:Hid (TreeAt d)) (q:Nat) (hqq:(q:Int)=x/8%5) (hm:4≤x%8∧x%8≤6) (m:Nat) (hmm:(m:Int)=x/64) :
    Calls Tryz.prog 56 #[(.slice (some ad) n c),.int .i64 deep] w (TreePost deep (l.length+1) l.length v w):=by
 have HV:=LH hv
 have HD0:=LH hd
 have HT:=LH (h.tail2 hn hc1)
 have hcell0:v.cell? ad=some (.int .u8 x):=by
  obtain ⟨A9,c9,e9,_,_,_,hq⟩:=h
  injection e9 with e9 _ _
  obtain ⟨a9,e8,hc⟩:=hq 0 (.int .u8 x) rfl
  rw [← e9] at e8
  injection e8 with e8
  subst e8
  rw [Addr.add_zero'] at hc
  exact hc
 have hcell:=hv.cell hcell0 (fun h=>h)
 clear hcell0 hv
 have hc:n≤c:=by
  obtain ⟨_,_,e,h2,_⟩:=h
  injection e with _ e2 e3
  omega
 have hq:(((n:Nat):Int)==0)=false:=beq_eq_false_iff_ne.2 (by omega)
 have hn1:(1:Int)≤n:=by omega
 have hn0:(0:Int)<n:=by omega
 have HN2:=LH hn
 have HLN:Hid (n-1=l.length):=LH (by omega)
 have hdq:(((deep:Nat):Int)==0)=false:=beq_eq_false_iff_ne.2 (by omega)
 have hmb:(x%8==0)=false:=beq_eq_false_iff_ne.2 (by omega)
 have hm1:(x%8==1)=false:=beq_eq_false_iff_ne.2 (by omega)
 have hm2:(x%8==2)=false:=beq_eq_false_iff_ne.2 (by omega)
 have hm3:(x%8==3)=false:=beq_eq_false_iff_ne.2 (by omega)
 have hm6:¬ (6<x%8):=by omega
 have HMM:=LH hmm
 have HQQ:=LH hqq
 have hm9:m≤20:=by omega
 have hq9:q≤4:=by omega
 have HU:Hid (okU l∧l.length≤1000000):=LH ⟨hu,by omega⟩
 have HDE:=LH (And.intro hde hdl)
 have hga:=(Keep.refl NoB w).alloc (.cells #[.int .i64 0,.int .i64 0,.slice none 0 0,.slice none 0 0,.slice none 0 0] 114)
 have hgb:=hga.alloc (.cells #[.int .i64 0,.int .i64 0,.slice none 0 0,.slice none 0 0,.slice none 0 0] 114)
 have hcell2:=hga.cell hcell (fun h=>h)
 have HX:Hid (0≤x∧x≤255):=LH hx
 obtain ⟨hx1,hx2⟩:=hx
 have HN9:=LH hn
 clear h hm hmm hqq hd hn hcell hga hgb hu hde hdl
 go_enter Tryz.func56,Tryz.ntmps56
 go_wp2_with fail
 have hy1:0≤x/8%5:=by omega
 have hy2:x/8%5≤4:=by omega
 have hz1:0≤x/64:=by omega
 have hz2:x/64≤3:=by omega
 go_loopw [11] (fun v wr=>∃ k:Nat,k≤m∧v=.int .i64 k∧∃ A4 c4,wr.heap[w.heap.size]? = some (.cells #[.int .i64 0,.int .i64 0,.slice none 0 0,.slice none 0 0,.slice none 0 0] 114 (0,0))∧wr.heap[w.heap.size+1]? = some (.cells #[.int .i64 1,.int .i64 0,.slice A4 k c4,.slice none 0 0,.slice none 0 0] 114 (0,0))∧Hid (Grow w wr∧w.heap.size+2≤wr.heap.size∧wr.ownsRow (w.heap.size+2) 22 1 (.slice A4 k c4) k (u64s (wdsK x k)))) (fun v _=>m-(intOf v).toNat)
 case atStart=>exact ⟨0,by omega,rfl,none,0,(zQ w _ _).1,(zQ w _ _).2.1,((Keep.refl NoB w).alloc _).alloc _,Nat.le_of_eq (zQ w _ _).2.2.symm,World.ownsRow_nil _ (w.heap.size+2) 22 1⟩
 case round =>
  obtain ⟨k,hk,rfl,A4,c4,hb4,hb7,HS⟩:=hrel
  have hwb:IntKind.i64.wrap (x/8%5)=x/8%5:=IntWalk.i64_in _ (by omega)
  have hwc:IntKind.i64.wrap (x/64)=x/64:=IntWalk.i64_in _ (by omega)
  have hd0:wr.cell? ⟨w.heap.size+1,0,none⟩=_:=World.news_of_block hb7 0 _ rfl
  have hd1:wr.cell? ⟨w.heap.size+1,1,none⟩=_:=World.news_of_block hb7 1 _ rfl
  have hd2:wr.cell? ⟨w.heap.size+1,2,none⟩=_:=World.news_of_block hb7 2 _ rfl
  have hd3:wr.cell? ⟨w.heap.size+1,3,none⟩=_:=World.news_of_block hb7 3 _ rfl
  have hd4:wr.cell? ⟨w.heap.size+1,4,none⟩=_:=World.news_of_block hb7 4 _ rfl
  by_cases hlt:k<m
  ·have hw:IntKind.i64.wrap ((k:Int)+1)=(k:Int)+1:=IntWalk.i64_in _ (by omega)
   have hw8:IntKind.i64.wrap (8*(k:Int))=8*(k:Int):=IntWalk.i64_in _ (by omega)
   have hw9:IntKind.u64.wrap (8*(k:Int))=8*(k:Int):=IntWalk.u64_in _ (by omega)
   have hlt':(k:Int)<x/64:=by have:=HMM.out;omega
   have hk9:(k:Int)≤255:=by omega
   have E1:=LH (zeE x k)
   go_wp2_with (at_builtin;refine zL _ rfl _ _ 111 111 rfl (w.heap.size+2) 22 (.int .u64 0) 1 8 zBA ze rfl (.slice A4 k c4) k (u64s (wdsK x k)) rfl (.slice (some ⟨wr.heap.size,0,none⟩) 1 1) 1 [.int .u64 (IntKind.u64.wrap (IntKind.u64.wrap (x*2 ^ (8*k))+k))] rfl ?_ (by exact zE HS.out.2.2 ((Keep.refl NoB wr).alloc _) (fun _ _ h=>h)) (by exact Src.ofSlice _ zBA ⟨wr.heap.size,0,none⟩ 1 1 _ rfl (World.news_of_block (cs:=#[.int .u64 (IntKind.u64.wrap (IntKind.u64.wrap (x*2 ^ (8*k))+k))]) (t:=22) (fr:=(0,0)) (heap_alloc_new wr _)) (by simp [Value.oneCell'])) (by simp only [maxLen];omega) (by omega) (by have:=HS.out.2.1;simp;omega);intro v3 w3 hap;refine Hid.out ?_)
   refine LH ?_
   have Hg3:Hid (Grow w w3∧w.heap.size+2≤w3.heap.size):=⟨((((HS.out.1.mono (T:=fun k=>w.heap.size+2≤k) (fun _ h=>h.elim)).alloc _).grown hap.grew (fun k hk=>.inl (HS.out.2.2.lt k hk).1))).new (fun _ h=>by omega),by have h1:=HS.out.2.1;have h2:=hap.grew.size;simp at h2;omega⟩
   have HK:=((Keep.refl (fun k=>w.heap.size+2≤k) wr).alloc (.cells #[.int .u64 (IntKind.u64.wrap (IntKind.u64.wrap (x*2 ^ (8*k))+k))] 22)).grown hap.grew (fun k hk=>.inl (HS.out.2.2.lt k hk).1)
   have hs2:=HS.out.2.1
   have hc4:=(HK.block w.heap.size (by omega) (by omega)).trans hb4
   have hc7:=(HK.block (w.heap.size+1) (by omega) (by omega)).trans hb7
   have Ho3:=LH hap.own
   obtain ⟨A6,c6,rfl,_⟩:=zJ hap.own
   have hlb:∀ q,(Value.slice A6 (k+1) c6).ownBlock=some q→w.heap.size+2≤q:=fun q hq=>(hap.own.lt q hq).1
   clear hap HK
   rw [← E1.out] at Ho3
   have hd3':w3.cell? ⟨w.heap.size+1,2,none⟩=_:=World.news_of_block hc7 2 _ rfl
   have hfr:∀ o,w3.frozen? ⟨w.heap.size+1,o,none⟩=false:=fun o=>zM o hc7
   have Hc:=LH hc4
   have Hc':=LH hc7
   have Hlb:=LH hlb
   clear hd0 hd1 hd2 hd3 hd4 hb4 hb7 hc4 hc7 hlb
   go_wp2
   go_roundw
   case rel =>
    have hkk:Keep (fun q=>q=w.heap.size+1) w3 (w3.setCell ⟨w.heap.size+1,2,none⟩ (.slice A6 (k+1) c6)):=(Keep.refl (fun q=>q=w.heap.size+1) w3).setCell (p:=⟨w.heap.size+1,2,none⟩) (.inl rfl) _
    refine ⟨k+1,by omega,by go_num,A6,c6,(hkk.block w.heap.size (by have:=Hg3.out.2;omega) (by simp)).trans Hc.out,?_,Hg3.out.1.setCell (.inr (by simp)) _,Nat.le_trans Hg3.out.2 hkk.size,zE Ho3.out hkk (fun q hq=>by have:=Hlb.out q hq;omega)⟩
    have hq:=Hc'.out
    simp only [World.setCell,Array.getElem?_modify]
    simp [hq]
   case measure=>simp [intOf];omega
  obtain rfl:k=m:=by omega
  have hlt':¬ ((k:Int)<x/64):=by have:=HMM.out;omega
  have HK0:Hid (TK d l.length v w 1 0 (wdsK x k) (.slice A4 k c4) 0 (.slice none 0 0) [] l (some ⟨ad.block,ad.off+1,none⟩) (c-1) wr):=LH (TK.begin hb4 hb7 HS.out.1 (by rw [zP];exact HS.out.2.2) (by have:=HT.out;rw [HLN.out] at this;exact this) (Nat.le_refl _) HU.out.1)
  clear hb4 HS
  go_wp2_with fail
  clear hd0 hd1 hd2 hd3 hd4 hb7
  go_loopw [0,12,13,14] (fun v0 v12 v13 v14 wr=>∃ (j:Nat) (lj:List Int) (A0:Option Addr) (c0:Nat) (A5:Option Addr) (c5:Nat) (rows:List (Tr×Value×Value×Value)),j≤q∧v12=.int .i64 j∧v0=.slice A0 lj.length c0∧Hid (TK d l.length v w 1 0 (wdsK x k) (.slice A4 k c4) j (.slice A5 j c5) rows lj A0 c0 wr)) (fun _ v12 _ _ _=>q-(intOf v12).toNat)
  case atStart=>exact ⟨0,l,(some ⟨ad.block,ad.off+1,none⟩),(c-1),none,0,[],by omega,rfl,(by rw [HLN.out]),HK0⟩
  case round =>
   clear HK0
   obtain ⟨j,lj,A0,c0,A5,c5,rows,hj,rfl,rfl,HK⟩:=hrel
   obtain ⟨n0,n1,n2,n3,n4,nf⟩:=zA HK.out.nod
   by_cases hjt:j<q
   ·have hjt':(j:Int)<x/8%5:=by have:=HQQ.out;omega
    have hwj:IntKind.i64.wrap ((j:Int)+1)=(j:Int)+1:=IntWalk.i64_in _ (by omega)
    have hwd:IntKind.i64.wrap ((deep:Int)-1)=d:=by rw [HDE.out.1];exact IntWalk.i64_in _ (by have:=HDE.out.1;have:=HDE.out.2;omega)
    go_wp2_with fail
    refine (IH.out lj A0 c0 v wr (HV.out.grow HK.out.keep) HK.out.left (Nat.le_trans HK.out.le HU.out.2) HK.out.okl).mono ?_
    rintro e w4 ⟨t,B1,B2,B3,d1,d2,d3,l2,A2,c2,rfl,hg4,hf4,htn,htb,hl4,hle4,hok4,hsm4⟩
    have HM:=LH (HK.out.called hg4 hf4)
    have HL:=LH (And.intro hl4 (And.intro (Nat.le_trans hle4 HK.out.le) hok4))
    have HT2:=LH (And.intro htn htb)
    have HSM4:=LH hsm4
    clear hg4 hf4 htn htb hl4 hle4 hok4 hsm4 n0 n1 n2 n3 n4 nf
    have hga:=(Keep.refl NoB w4).alloc (.cells #[.int .i64 t.kind,.int .i64 t.size,.slice B1 t.ws.length d1,.slice B2 t.bs.length d2,.slice B3 t.kids.length d3] 114)
    have hna:=heap_alloc_new w4 (.cells #[.int .i64 t.kind,.int .i64 t.size,.slice B1 t.ws.length d1,.slice B2 t.bs.length d2,.slice B3 t.kids.length d3] 114)
    replace HM:=LH (HM.out.grow hga)
    have HNA:=LH hna
    clear hga hna
    obtain ⟨t0,t1,t2,t3,t4,tf⟩:=zA HNA.out
    obtain ⟨n0,n1,n2,n3,n4,nf⟩:=zA HM.out.nod
    have HSRC:Hid (((w4.alloc (.cells #[.int .i64 t.kind,.int .i64 t.size,.slice B1 t.ws.length d1,.slice B2 t.bs.length d2,.slice B3 t.kids.length d3] 114)).alloc (.cells #[.int .i64 t.kind,.int .i64 t.size,.slice B1 t.ws.length d1,.slice B2 t.bs.length d2,.slice B3 t.kids.length d3] 114)).heap[w4.heap.size+1]? = some (.cells #[.int .i64 t.kind,.int .i64 t.size,.slice B1 t.ws.length d1,.slice B2 t.bs.length d2,.slice B3 t.kids.length d3] 114 (0,0))):=LH (zQ w4 _ _).2.1
    have HSZ:Hid (w.heap.size+2≤((w4.alloc (.cells #[.int .i64 t.kind,.int .i64 t.size,.slice B1 t.ws.length d1,.slice B2 t.bs.length d2,.slice B3 t.kids.length d3] 114)).alloc (.cells #[.int .i64 t.kind,.int .i64 t.size,.slice B1 t.ws.length d1,.slice B2 t.bs.length d2,.slice B3 t.kids.length d3] 114)).heap.size):=LH (by have:=(gE HM.out.nod).1;simp at this ⊢;omega)
    go_wp2_with (at_builtin;refine zL _ rfl _ _ 112 112 rfl (w.heap.size+2) 114 (.agg #[.int .i64 0,.int .i64 0,.slice none 0 0,.slice none 0 0,.slice none 0 0]) 5 88 zt zVA rfl (.slice A5 j c5) j (kcs rows) rfl (.slice (some ⟨w4.heap.size+1,0,none⟩) 1 1) 1 [.int .i64 t.kind,.int .i64 t.size,.slice B1 t.ws.length d1,.slice B2 t.bs.length d2,.slice B3 t.kids.length d3] rfl ?_ (by exact zE HM.out.own ((Keep.refl NoB _).alloc _) (fun _ _ h=>h)) (by exact Src.ofSlice _ zt ⟨w4.heap.size+1,0,none⟩ 1 1 _ rfl (World.news_of_block (cs:=#[.int .i64 t.kind,.int .i64 t.size,.slice B1 t.ws.length d1,.slice B2 t.bs.length d2,.slice B3 t.kids.length d3]) (t:=114) (fr:=(0,0)) HSRC.out) (by simp [Value.oneCell'])) (by simp only [maxLen];omega) (by omega) (by exact HSZ.out);intro v5 w5 hap;refine Hid.out ?_)
    refine LH ?_
    replace HM:=LH (HM.out.grow ((Keep.refl NoB _).alloc (.cells #[.int .i64 t.kind,.int .i64 t.size,.slice B1 t.ws.length d1,.slice B2 t.bs.length d2,.slice B3 t.kids.length d3] 114)))
    have hfin:=HM.out.appended (kid:=(t,.slice B1 t.ws.length d1,.slice B2 t.bs.length d2,.slice B3 t.kids.length d3)) hap HK.out.len (fun x hx=>by
     rcases List.mem_append.1 hx with e | e
     ·exact HK.out.ok x e
     ·rw [List.mem_singleton.1 e];exact HT2.out) HL.out.1 HL.out.2.1 HL.out.2.2 (fun m9 h9=>⟨fun x hx=>by
     rcases List.mem_append.1 hx with e | e
     ·exact (HK.out.sm m9 h9).1 x e
     ·rw [List.mem_singleton.1 e];exact (HSM4.out m9 h9).1,by
     have e1:=(HK.out.sm m9 h9).2
     have e2:=(HSM4.out m9 h9).2
     rw [List.map_append,List.sum_append]
     simp only [List.map_cons,List.map_nil,List.sum_cons,List.sum_nil]
     omega⟩)
    obtain ⟨A6,c6,rfl,_⟩:=zJ hap.own
    have HF:=LH hfin.1
    clear n0 n1 n2 n3 n4 nf t0 t1 t2 t3 t4 tf hap
    obtain ⟨n0,n1,n2,n3,n4,nf⟩:=zA hfin.2
    clear hfin
    go_wp2
    go_roundw
    case rel=>exact ⟨j+1,l2,A2,c2,A6,c6,_,by omega,by go_num,rfl,HF⟩
    case measure=>simp [intOf];omega
   ·obtain rfl:j=q:=by omega
    have hjt':¬ ((j:Int)<x/8%5):=by have:=HQQ.out;omega
    obtain ⟨hf0,hf1,hf2,hf3,hf4,hfr⟩:=zA HK.out.res
    obtain ⟨hw5,-⟩:=zZ (.int .i64 1) (.int .i64 0) (.slice A4 k c4) (.slice none 0 0) (.slice A5 j c5) HK.out.keep (Nat.le_refl _) HK.out.res
    have HW5:=LH hw5
    have HP:Hid (TreePost deep (l.length+1) l.length v w (.returned (.tuple #[.agg #[.int .i64 1,.int .i64 0,.slice A4 k c4,.slice none 0 0,.slice A5 j c5],.slice A0 lj.length c0])) (((((wr.setCell ⟨w.heap.size,0,none⟩ (.int .i64 1)).setCell ⟨w.heap.size,1,none⟩ (.int .i64 0)).setCell ⟨w.heap.size,2,none⟩ (.slice A4 k c4)).setCell ⟨w.heap.size,3,none⟩ (.slice none 0 0)).setCell ⟨w.heap.size,4,none⟩ (.slice A5 j c5))) :=
     LH (HK.out.post (by have:=HDE.out.1;omega) (by rw [zP];simp [ownB];have:=HMM.out;omega) (by rw [zP];simp [needN];have:=HMM.out;omega) (zP x k) (zb _ _ _ _ _) (by rw [zP];omega) (zVB x k) (by omega))
    clear hw5
    go_wp2
    revert HW5 HP
    generalize (((((wr.setCell ⟨w.heap.size,0,none⟩ (.int .i64 1)).setCell ⟨w.heap.size,1,none⟩ (.int .i64 0)).setCell ⟨w.heap.size,2,none⟩ (.slice A4 k c4)).setCell ⟨w.heap.size,3,none⟩ (.slice none 0 0)).setCell ⟨w.heap.size,4,none⟩ (.slice A5 j c5))=w5
    intro HW5 HP
    obtain ⟨hf0,hf1,hf2,hf3,hf4,hfr⟩:=zA HW5.out
    refine bodyPost_ret (v:=.tuple #[.agg #[.int .i64 1,.int .i64 0,.slice A4 k c4,.slice none 0 0,.slice A5 j c5],.slice A0 lj.length c0]) ?_ rfl HP.out
    rw [results_cell_tmp rfl];go_simp
theorem zxJ (x:Int) (ad:Addr) (deep:Nat) (v w:World) (hv:Grow v w) (h:SliceR 1 (.slice (some ad) 1 1) 1 (u8s [x]) v) (hx:0≤x∧x≤255) (hd:deep≠0) (d:Nat) (hde:(deep:Int)-1=d) (hdl:deep≤1000) (IH:Hid (TreeAt d)) (q:Nat) (hqq:(q:Int)=x/8%5) (hm:4≤x%8∧x%8≤6) (m:Nat) (hmm:(m:Int)=x/64) :
    Calls Tryz.prog 56 #[(.slice (some ad) 1 1),.int .i64 deep] w (TreePost deep (([]:List Int).length+1) ([]:List Int).length v w):=by
 have HV:=LH hv
 have HD0:=LH hd
 have HT:Hid (SliceR 1 (.slice (some ad) 0 0) 0 (u8s []) v):=LH ⟨some ad,0,rfl,Nat.le_refl _,by simp [u8s],fun _=>rfl,fun j u hu=>by simp [u8s] at hu⟩
 have hcell0:v.cell? ad=some (.int .u8 x):=by
  obtain ⟨A9,c9,e9,_,_,_,hq⟩:=h
  injection e9 with e9 _ _
  obtain ⟨a9,e8,hc⟩:=hq 0 (.int .u8 x) rfl
  rw [← e9] at e8
  injection e8 with e8
  subst e8
  rw [Addr.add_zero'] at hc
  exact hc
 have hcell:=hv.cell hcell0 (fun h=>h)
 clear hcell0 hv
 have hu:okU []:=fun y hy=>by cases hy
 have hn:0=([]:List Int).length:=rfl
 have hdq:(((deep:Nat):Int)==0)=false:=beq_eq_false_iff_ne.2 (by omega)
 have hmb:(x%8==0)=false:=beq_eq_false_iff_ne.2 (by omega)
 have hm1:(x%8==1)=false:=beq_eq_false_iff_ne.2 (by omega)
 have hm2:(x%8==2)=false:=beq_eq_false_iff_ne.2 (by omega)
 have hm3:(x%8==3)=false:=beq_eq_false_iff_ne.2 (by omega)
 have hm6:¬ (6<x%8):=by omega
 have HMM:=LH hmm
 have HQQ:=LH hqq
 have hm9:m≤20:=by omega
 have hq9:q≤4:=by omega
 have HU:Hid (okU ([]:List Int)∧([]:List Int).length≤1000000):=LH ⟨hu,by simp⟩
 have HDE:=LH (And.intro hde hdl)
 have hga:=(Keep.refl NoB w).alloc (.cells #[.int .i64 0,.int .i64 0,.slice none 0 0,.slice none 0 0,.slice none 0 0] 114)
 have hgb:=hga.alloc (.cells #[.int .i64 0,.int .i64 0,.slice none 0 0,.slice none 0 0,.slice none 0 0] 114)
 have hcell2:=hga.cell hcell (fun h=>h)
 have HX:Hid (0≤x∧x≤255):=LH hx
 obtain ⟨hx1,hx2⟩:=hx
 have HN9:=LH hn
 clear h hm hmm hqq hd hn hcell hga hgb hu hde hdl
 go_enter Tryz.func56,Tryz.ntmps56
 go_wp2_with fail
 have hy1:0≤x/8%5:=by omega
 have hy2:x/8%5≤4:=by omega
 have hz1:0≤x/64:=by omega
 have hz2:x/64≤3:=by omega
 go_loopw [11] (fun v wr=>∃ k:Nat,k≤m∧v=.int .i64 k∧∃ A4 c4,wr.heap[w.heap.size]? = some (.cells #[.int .i64 0,.int .i64 0,.slice none 0 0,.slice none 0 0,.slice none 0 0] 114 (0,0))∧wr.heap[w.heap.size+1]? = some (.cells #[.int .i64 1,.int .i64 0,.slice A4 k c4,.slice none 0 0,.slice none 0 0] 114 (0,0))∧Hid (Grow w wr∧w.heap.size+2≤wr.heap.size∧wr.ownsRow (w.heap.size+2) 22 1 (.slice A4 k c4) k (u64s (wdsK x k)))) (fun v _=>m-(intOf v).toNat)
 case atStart=>exact ⟨0,by omega,rfl,none,0,(zQ w _ _).1,(zQ w _ _).2.1,((Keep.refl NoB w).alloc _).alloc _,Nat.le_of_eq (zQ w _ _).2.2.symm,World.ownsRow_nil _ (w.heap.size+2) 22 1⟩
 case round =>
  obtain ⟨k,hk,rfl,A4,c4,hb4,hb7,HS⟩:=hrel
  have hwb:IntKind.i64.wrap (x/8%5)=x/8%5:=IntWalk.i64_in _ (by omega)
  have hwc:IntKind.i64.wrap (x/64)=x/64:=IntWalk.i64_in _ (by omega)
  have hd0:wr.cell? ⟨w.heap.size+1,0,none⟩=_:=World.news_of_block hb7 0 _ rfl
  have hd1:wr.cell? ⟨w.heap.size+1,1,none⟩=_:=World.news_of_block hb7 1 _ rfl
  have hd2:wr.cell? ⟨w.heap.size+1,2,none⟩=_:=World.news_of_block hb7 2 _ rfl
  have hd3:wr.cell? ⟨w.heap.size+1,3,none⟩=_:=World.news_of_block hb7 3 _ rfl
  have hd4:wr.cell? ⟨w.heap.size+1,4,none⟩=_:=World.news_of_block hb7 4 _ rfl
  by_cases hlt:k<m
  ·have hw:IntKind.i64.wrap ((k:Int)+1)=(k:Int)+1:=IntWalk.i64_in _ (by omega)
   have hw8:IntKind.i64.wrap (8*(k:Int))=8*(k:Int):=IntWalk.i64_in _ (by omega)
   have hw9:IntKind.u64.wrap (8*(k:Int))=8*(k:Int):=IntWalk.u64_in _ (by omega)
   have hlt':(k:Int)<x/64:=by have:=HMM.out;omega
   have hk9:(k:Int)≤255:=by omega
   have E1:=LH (zeE x k)
   go_wp2_with (at_builtin;refine zL _ rfl _ _ 111 111 rfl (w.heap.size+2) 22 (.int .u64 0) 1 8 zBA ze rfl (.slice A4 k c4) k (u64s (wdsK x k)) rfl (.slice (some ⟨wr.heap.size,0,none⟩) 1 1) 1 [.int .u64 (IntKind.u64.wrap (IntKind.u64.wrap (x*2 ^ (8*k))+k))] rfl ?_ (by exact zE HS.out.2.2 ((Keep.refl NoB wr).alloc _) (fun _ _ h=>h)) (by exact Src.ofSlice _ zBA ⟨wr.heap.size,0,none⟩ 1 1 _ rfl (World.news_of_block (cs:=#[.int .u64 (IntKind.u64.wrap (IntKind.u64.wrap (x*2 ^ (8*k))+k))]) (t:=22) (fr:=(0,0)) (heap_alloc_new wr _)) (by simp [Value.oneCell'])) (by simp only [maxLen];omega) (by omega) (by have:=HS.out.2.1;simp;omega);intro v3 w3 hap;refine Hid.out ?_)
   refine LH ?_
   have Hg3:Hid (Grow w w3∧w.heap.size+2≤w3.heap.size):=⟨((((HS.out.1.mono (T:=fun k=>w.heap.size+2≤k) (fun _ h=>h.elim)).alloc _).grown hap.grew (fun k hk=>.inl (HS.out.2.2.lt k hk).1))).new (fun _ h=>by omega),by have h1:=HS.out.2.1;have h2:=hap.grew.size;simp at h2;omega⟩
   have HK:=((Keep.refl (fun k=>w.heap.size+2≤k) wr).alloc (.cells #[.int .u64 (IntKind.u64.wrap (IntKind.u64.wrap (x*2 ^ (8*k))+k))] 22)).grown hap.grew (fun k hk=>.inl (HS.out.2.2.lt k hk).1)
   have hs2:=HS.out.2.1
   have hc4:=(HK.block w.heap.size (by omega) (by omega)).trans hb4
   have hc7:=(HK.block (w.heap.size+1) (by omega) (by omega)).trans hb7
   have Ho3:=LH hap.own
   obtain ⟨A6,c6,rfl,_⟩:=zJ hap.own
   have hlb:∀ q,(Value.slice A6 (k+1) c6).ownBlock=some q→w.heap.size+2≤q:=fun q hq=>(hap.own.lt q hq).1
   clear hap HK
   rw [← E1.out] at Ho3
   have hd3':w3.cell? ⟨w.heap.size+1,2,none⟩=_:=World.news_of_block hc7 2 _ rfl
   have hfr:∀ o,w3.frozen? ⟨w.heap.size+1,o,none⟩=false:=fun o=>zM o hc7
   have Hc:=LH hc4
   have Hc':=LH hc7
   have Hlb:=LH hlb
   clear hd0 hd1 hd2 hd3 hd4 hb4 hb7 hc4 hc7 hlb
   go_wp2
   go_roundw
   case rel =>
    have hkk:Keep (fun q=>q=w.heap.size+1) w3 (w3.setCell ⟨w.heap.size+1,2,none⟩ (.slice A6 (k+1) c6)):=(Keep.refl (fun q=>q=w.heap.size+1) w3).setCell (p:=⟨w.heap.size+1,2,none⟩) (.inl rfl) _
    refine ⟨k+1,by omega,by go_num,A6,c6,(hkk.block w.heap.size (by have:=Hg3.out.2;omega) (by simp)).trans Hc.out,?_,Hg3.out.1.setCell (.inr (by simp)) _,Nat.le_trans Hg3.out.2 hkk.size,zE Ho3.out hkk (fun q hq=>by have:=Hlb.out q hq;omega)⟩
    have hq:=Hc'.out
    simp only [World.setCell,Array.getElem?_modify]
    simp [hq]
   case measure=>simp [intOf];omega
  obtain rfl:k=m:=by omega
  have hlt':¬ ((k:Int)<x/64):=by have:=HMM.out;omega
  have HK0:Hid (TK d ([]:List Int).length v w 1 0 (wdsK x k) (.slice A4 k c4) 0 (.slice none 0 0) [] ([]:List Int) (some ad) 0 wr):=LH (TK.begin hb4 hb7 HS.out.1 (by rw [zP];exact HS.out.2.2) HT.out (Nat.le_refl _) HU.out.1)
  clear hb4 HS
  go_wp2_with fail
  clear hd0 hd1 hd2 hd3 hd4 hb7
  go_loopw [0,12,13,14] (fun v0 v12 v13 v14 wr=>∃ (j:Nat) (lj:List Int) (A0:Option Addr) (c0:Nat) (A5:Option Addr) (c5:Nat) (rows:List (Tr×Value×Value×Value)),j≤q∧v12=.int .i64 j∧v0=.slice A0 lj.length c0∧Hid (TK d ([]:List Int).length v w 1 0 (wdsK x k) (.slice A4 k c4) j (.slice A5 j c5) rows lj A0 c0 wr)) (fun _ v12 _ _ _=>q-(intOf v12).toNat)
  case atStart=>exact ⟨0,([]:List Int),(some ad),0,none,0,[],by omega,rfl,rfl,HK0⟩
  case round =>
   clear HK0
   obtain ⟨j,lj,A0,c0,A5,c5,rows,hj,rfl,rfl,HK⟩:=hrel
   obtain ⟨n0,n1,n2,n3,n4,nf⟩:=zA HK.out.nod
   by_cases hjt:j<q
   ·have hjt':(j:Int)<x/8%5:=by have:=HQQ.out;omega
    have hwj:IntKind.i64.wrap ((j:Int)+1)=(j:Int)+1:=IntWalk.i64_in _ (by omega)
    have hwd:IntKind.i64.wrap ((deep:Int)-1)=d:=by rw [HDE.out.1];exact IntWalk.i64_in _ (by have:=HDE.out.1;have:=HDE.out.2;omega)
    go_wp2_with fail
    refine (IH.out lj A0 c0 v wr (HV.out.grow HK.out.keep) HK.out.left (Nat.le_trans HK.out.le HU.out.2) HK.out.okl).mono ?_
    rintro e w4 ⟨t,B1,B2,B3,d1,d2,d3,l2,A2,c2,rfl,hg4,hf4,htn,htb,hl4,hle4,hok4,hsm4⟩
    have HM:=LH (HK.out.called hg4 hf4)
    have HL:=LH (And.intro hl4 (And.intro (Nat.le_trans hle4 HK.out.le) hok4))
    have HT2:=LH (And.intro htn htb)
    have HSM4:=LH hsm4
    clear hg4 hf4 htn htb hl4 hle4 hok4 hsm4 n0 n1 n2 n3 n4 nf
    have hga:=(Keep.refl NoB w4).alloc (.cells #[.int .i64 t.kind,.int .i64 t.size,.slice B1 t.ws.length d1,.slice B2 t.bs.length d2,.slice B3 t.kids.length d3] 114)
    have hna:=heap_alloc_new w4 (.cells #[.int .i64 t.kind,.int .i64 t.size,.slice B1 t.ws.length d1,.slice B2 t.bs.length d2,.slice B3 t.kids.length d3] 114)
    replace HM:=LH (HM.out.grow hga)
    have HNA:=LH hna
    clear hga hna
    obtain ⟨t0,t1,t2,t3,t4,tf⟩:=zA HNA.out
    obtain ⟨n0,n1,n2,n3,n4,nf⟩:=zA HM.out.nod
    have HSRC:Hid (((w4.alloc (.cells #[.int .i64 t.kind,.int .i64 t.size,.slice B1 t.ws.length d1,.slice B2 t.bs.length d2,.slice B3 t.kids.length d3] 114)).alloc (.cells #[.int .i64 t.kind,.int .i64 t.size,.slice B1 t.ws.length d1,.slice B2 t.bs.length d2,.slice B3 t.kids.length d3] 114)).heap[w4.heap.size+1]? = some (.cells #[.int .i64 t.kind,.int .i64 t.size,.slice B1 t.ws.length d1,.slice B2 t.bs.length d2,.slice B3 t.kids.length d3] 114 (0,0))):=LH (zQ w4 _ _).2.1
    have HSZ:Hid (w.heap.size+2≤((w4.alloc (.cells #[.int .i64 t.kind,.int .i64 t.size,.slice B1 t.ws.length d1,.slice B2 t.bs.length d2,.slice B3 t.kids.length d3] 114)).alloc (.cells #[.int .i64 t.kind,.int .i64 t.size,.slice B1 t.ws.length d1,.slice B2 t.bs.length d2,.slice B3 t.kids.length d3] 114)).heap.size):=LH (by have:=(gE HM.out.nod).1;simp at this ⊢;omega)
    go_wp2_with (at_builtin;refine zL _ rfl _ _ 112 112 rfl (w.heap.size+2) 114 (.agg #[.int .i64 0,.int .i64 0,.slice none 0 0,.slice none 0 0,.slice none 0 0]) 5 88 zt zVA rfl (.slice A5 j c5) j (kcs rows) rfl (.slice (some ⟨w4.heap.size+1,0,none⟩) 1 1) 1 [.int .i64 t.kind,.int .i64 t.size,.slice B1 t.ws.length d1,.slice B2 t.bs.length d2,.slice B3 t.kids.length d3] rfl ?_ (by exact zE HM.out.own ((Keep.refl NoB _).alloc _) (fun _ _ h=>h)) (by exact Src.ofSlice _ zt ⟨w4.heap.size+1,0,none⟩ 1 1 _ rfl (World.news_of_block (cs:=#[.int .i64 t.kind,.int .i64 t.size,.slice B1 t.ws.length d1,.slice B2 t.bs.length d2,.slice B3 t.kids.length d3]) (t:=114) (fr:=(0,0)) HSRC.out) (by simp [Value.oneCell'])) (by simp only [maxLen];omega) (by omega) (by exact HSZ.out);intro v5 w5 hap;refine Hid.out ?_)
    refine LH ?_
    replace HM:=LH (HM.out.grow ((Keep.refl NoB _).alloc (.cells #[.int .i64 t.kind,.int .i64 t.size,.slice B1 t.ws.length d1,.slice B2 t.bs.length d2,.slice B3 t.kids.length d3] 114)))
    have hfin:=HM.out.appended (kid:=(t,.slice B1 t.ws.length d1,.slice B2 t.bs.length d2,.slice B3 t.kids.length d3)) hap HK.out.len (fun x hx=>by
     rcases List.mem_append.1 hx with e | e
     ·exact HK.out.ok x e
     ·rw [List.mem_singleton.1 e];exact HT2.out) HL.out.1 HL.out.2.1 HL.out.2.2 (fun m9 h9=>⟨fun x hx=>by
     rcases List.mem_append.1 hx with e | e
     ·exact (HK.out.sm m9 h9).1 x e
     ·rw [List.mem_singleton.1 e];exact (HSM4.out m9 h9).1,by
     have e1:=(HK.out.sm m9 h9).2
     have e2:=(HSM4.out m9 h9).2
     rw [List.map_append,List.sum_append]
     simp only [List.map_cons,List.map_nil,List.sum_cons,List.sum_nil]
     omega⟩)
    obtain ⟨A6,c6,rfl,_⟩:=zJ hap.own
    have HF:=LH hfin.1
    clear n0 n1 n2 n3 n4 nf t0 t1 t2 t3 t4 tf hap
    obtain ⟨n0,n1,n2,n3,n4,nf⟩:=zA hfin.2
    clear hfin
    go_wp2
    go_roundw
    case rel=>exact ⟨j+1,l2,A2,c2,A6,c6,_,by omega,by go_num,rfl,HF⟩
    case measure=>simp [intOf];omega
   ·obtain rfl:j=q:=by omega
    have hjt':¬ ((j:Int)<x/8%5):=by have:=HQQ.out;omega
    obtain ⟨hf0,hf1,hf2,hf3,hf4,hfr⟩:=zA HK.out.res
    obtain ⟨hw5,-⟩:=zZ (.int .i64 1) (.int .i64 0) (.slice A4 k c4) (.slice none 0 0) (.slice A5 j c5) HK.out.keep (Nat.le_refl _) HK.out.res
    have HW5:=LH hw5
    have HP:Hid (TreePost deep (([]:List Int).length+1) ([]:List Int).length v w (.returned (.tuple #[.agg #[.int .i64 1,.int .i64 0,.slice A4 k c4,.slice none 0 0,.slice A5 j c5],.slice A0 lj.length c0])) (((((wr.setCell ⟨w.heap.size,0,none⟩ (.int .i64 1)).setCell ⟨w.heap.size,1,none⟩ (.int .i64 0)).setCell ⟨w.heap.size,2,none⟩ (.slice A4 k c4)).setCell ⟨w.heap.size,3,none⟩ (.slice none 0 0)).setCell ⟨w.heap.size,4,none⟩ (.slice A5 j c5))) :=
     LH (HK.out.post (by have:=HDE.out.1;omega) (by rw [zP];simp [ownB];have:=HMM.out;omega) (by rw [zP];simp [needN];have:=HMM.out;omega) (zP x k) (zb _ _ _ _ _) (by rw [zP];omega) (zVB x k) (by omega))
    clear hw5
    go_wp2
    revert HW5 HP
    generalize (((((wr.setCell ⟨w.heap.size,0,none⟩ (.int .i64 1)).setCell ⟨w.heap.size,1,none⟩ (.int .i64 0)).setCell ⟨w.heap.size,2,none⟩ (.slice A4 k c4)).setCell ⟨w.heap.size,3,none⟩ (.slice none 0 0)).setCell ⟨w.heap.size,4,none⟩ (.slice A5 j c5))=w5
    intro HW5 HP
    obtain ⟨hf0,hf1,hf2,hf3,hf4,hfr⟩:=zA HW5.out
    refine bodyPost_ret (v:=.tuple #[.agg #[.int .i64 1,.int .i64 0,.slice A4 k c4,.slice none 0 0,.slice A5 j c5],.slice A0 lj.length c0]) ?_ rfl HP.out
    rw [results_cell_tmp rfl];go_simp
theorem zyJ (x:Int) (l:List Int) (ad:Addr) (n c:Nat) (deep:Nat) (v w:World) (hv:Grow v w) (h:SliceR 1 (.slice (some ad) n c) n (u8s (x :: l)) v) (hn:n=l.length+1) (hl:l.length≤1000000) (hx:0≤x∧x≤255) (hu:okU l) (hd:deep≠0) (hc1:¬ (c=1)) (d:Nat) (hde:(deep:Int)-1=d) (hdl:deep≤1000) (IH:Hid (TreeAt d)) (q:Nat) (hqq:(q:Int)=x/8%5) (hm:x%8=7) (m:Nat) (hmm:m=0) :
    Calls Tryz.prog 56 #[(.slice (some ad) n c),.int .i64 deep] w (TreePost deep (l.length+1) l.length v w):=by
 have HV:=LH hv
 have HD0:=LH hd
 have HT:=LH (h.tail2 hn hc1)
 have hcell0:v.cell? ad=some (.int .u8 x):=by
  obtain ⟨A9,c9,e9,_,_,_,hq⟩:=h
  injection e9 with e9 _ _
  obtain ⟨a9,e8,hc⟩:=hq 0 (.int .u8 x) rfl
  rw [← e9] at e8
  injection e8 with e8
  subst e8
  rw [Addr.add_zero'] at hc
  exact hc
 have hcell:=hv.cell hcell0 (fun h=>h)
 clear hcell0 hv
 have hc:n≤c:=by
  obtain ⟨_,_,e,h2,_⟩:=h
  injection e with _ e2 e3
  omega
 have hq:(((n:Nat):Int)==0)=false:=beq_eq_false_iff_ne.2 (by omega)
 have hn1:(1:Int)≤n:=by omega
 have hn0:(0:Int)<n:=by omega
 have HN2:=LH hn
 have HLN:Hid (n-1=l.length):=LH (by omega)
 have hdq:(((deep:Nat):Int)==0)=false:=beq_eq_false_iff_ne.2 (by omega)
 have hmb:(x%8==0)=false:=beq_eq_false_iff_ne.2 (by omega)
 have hm1:(x%8==1)=false:=beq_eq_false_iff_ne.2 (by omega)
 have hm2:(x%8==2)=false:=beq_eq_false_iff_ne.2 (by omega)
 have hm3:(x%8==3)=false:=beq_eq_false_iff_ne.2 (by omega)
 have hm6:6<x%8:=by omega
 have HMM:=LH hmm
 have HQQ:=LH hqq
 have hm9:m≤20:=by omega
 have hq9:q≤4:=by omega
 have HU:Hid (okU l∧l.length≤1000000):=LH ⟨hu,by omega⟩
 have HDE:=LH (And.intro hde hdl)
 have hga:=(Keep.refl NoB w).alloc (.cells #[.int .i64 0,.int .i64 0,.slice none 0 0,.slice none 0 0,.slice none 0 0] 114)
 have hgb:=hga.alloc (.cells #[.int .i64 0,.int .i64 0,.slice none 0 0,.slice none 0 0,.slice none 0 0] 114)
 have hcell2:=hga.cell hcell (fun h=>h)
 have HX:Hid (0≤x∧x≤255):=LH hx
 obtain ⟨hx1,hx2⟩:=hx
 have HN9:=LH hn
 clear h hm hmm hqq hd hn hcell hga hgb hu hde hdl
 go_enter Tryz.func56,Tryz.ntmps56
 go_wp2_with fail
 have hy1:0≤x/8%5:=by omega
 have hy2:x/8%5≤4:=by omega
 have hz1:0≤x/64:=by omega
 have hz2:x/64≤3:=by omega
 go_loopw [11] (fun v wr=>∃ k:Nat,k≤m∧v=.int .i64 k∧∃ A4 c4,wr.heap[w.heap.size]? = some (.cells #[.int .i64 0,.int .i64 0,.slice none 0 0,.slice none 0 0,.slice none 0 0] 114 (0,0))∧wr.heap[w.heap.size+1]? = some (.cells #[.int .i64 2,.int .i64 6,.slice A4 k c4,.slice none 0 0,.slice none 0 0] 114 (0,0))∧Hid (Grow w wr∧w.heap.size+2≤wr.heap.size∧wr.ownsRow (w.heap.size+2) 22 1 (.slice A4 k c4) k (u64s (wdsK x k)))) (fun v _=>m-(intOf v).toNat)
 case atStart=>exact ⟨0,by omega,rfl,none,0,(zQ w _ _).1,(zQ w _ _).2.1,((Keep.refl NoB w).alloc _).alloc _,Nat.le_of_eq (zQ w _ _).2.2.symm,World.ownsRow_nil _ (w.heap.size+2) 22 1⟩
 case round =>
  obtain ⟨k,hk,rfl,A4,c4,hb4,hb7,HS⟩:=hrel
  have hwb:IntKind.i64.wrap (x/8%5)=x/8%5:=IntWalk.i64_in _ (by omega)
  have hwc:IntKind.i64.wrap (x/64)=x/64:=IntWalk.i64_in _ (by omega)
  have hd0:wr.cell? ⟨w.heap.size+1,0,none⟩=_:=World.news_of_block hb7 0 _ rfl
  have hd1:wr.cell? ⟨w.heap.size+1,1,none⟩=_:=World.news_of_block hb7 1 _ rfl
  have hd2:wr.cell? ⟨w.heap.size+1,2,none⟩=_:=World.news_of_block hb7 2 _ rfl
  have hd3:wr.cell? ⟨w.heap.size+1,3,none⟩=_:=World.news_of_block hb7 3 _ rfl
  have hd4:wr.cell? ⟨w.heap.size+1,4,none⟩=_:=World.news_of_block hb7 4 _ rfl
  obtain rfl:m=0:=HMM.out
  obtain rfl:k=0:=by omega
  rcases Decidable.em ((0:Int)<x/64) with hlt2 | hlt2
  ·have HK0:Hid (TK d l.length v w 2 6 (wdsK x 0) (.slice A4 0 c4) 0 (.slice none 0 0) [] l (some ⟨ad.block,ad.off+1,none⟩) (c-1) wr):=LH (TK.begin hb4 hb7 HS.out.1 (by rw [zP];exact HS.out.2.2) (by have:=HT.out;rw [HLN.out] at this;exact this) (Nat.le_refl _) HU.out.1)
   clear hb4 HS
   go_wp2_with fail
   clear hd0 hd1 hd2 hd3 hd4 hb7
   go_loopw [0,12,13,14] (fun v0 v12 v13 v14 wr=>∃ (j:Nat) (lj:List Int) (A0:Option Addr) (c0:Nat) (A5:Option Addr) (c5:Nat) (rows:List (Tr×Value×Value×Value)),j≤q∧v12=.int .i64 j∧v0=.slice A0 lj.length c0∧Hid (TK d l.length v w 2 6 (wdsK x 0) (.slice A4 0 c4) j (.slice A5 j c5) rows lj A0 c0 wr)) (fun _ v12 _ _ _=>q-(intOf v12).toNat)
   case atStart=>exact ⟨0,l,(some ⟨ad.block,ad.off+1,none⟩),(c-1),none,0,[],by omega,rfl,(by rw [HLN.out]),HK0⟩
   case round =>
    clear HK0
    obtain ⟨j,lj,A0,c0,A5,c5,rows,hj,rfl,rfl,HK⟩:=hrel
    obtain ⟨n0,n1,n2,n3,n4,nf⟩:=zA HK.out.nod
    by_cases hjt:j<q
    ·have hjt':(j:Int)<x/8%5:=by have:=HQQ.out;omega
     have hwj:IntKind.i64.wrap ((j:Int)+1)=(j:Int)+1:=IntWalk.i64_in _ (by omega)
     have hwd:IntKind.i64.wrap ((deep:Int)-1)=d:=by rw [HDE.out.1];exact IntWalk.i64_in _ (by have:=HDE.out.1;have:=HDE.out.2;omega)
     go_wp2_with fail
     refine (IH.out lj A0 c0 v wr (HV.out.grow HK.out.keep) HK.out.left (Nat.le_trans HK.out.le HU.out.2) HK.out.okl).mono ?_
     rintro e w4 ⟨t,B1,B2,B3,d1,d2,d3,l2,A2,c2,rfl,hg4,hf4,htn,htb,hl4,hle4,hok4,hsm4⟩
     have HM:=LH (HK.out.called hg4 hf4)
     have HL:=LH (And.intro hl4 (And.intro (Nat.le_trans hle4 HK.out.le) hok4))
     have HT2:=LH (And.intro htn htb)
     have HSM4:=LH hsm4
     clear hg4 hf4 htn htb hl4 hle4 hok4 hsm4 n0 n1 n2 n3 n4 nf
     have hga:=(Keep.refl NoB w4).alloc (.cells #[.int .i64 t.kind,.int .i64 t.size,.slice B1 t.ws.length d1,.slice B2 t.bs.length d2,.slice B3 t.kids.length d3] 114)
     have hna:=heap_alloc_new w4 (.cells #[.int .i64 t.kind,.int .i64 t.size,.slice B1 t.ws.length d1,.slice B2 t.bs.length d2,.slice B3 t.kids.length d3] 114)
     replace HM:=LH (HM.out.grow hga)
     have HNA:=LH hna
     clear hga hna
     obtain ⟨t0,t1,t2,t3,t4,tf⟩:=zA HNA.out
     obtain ⟨n0,n1,n2,n3,n4,nf⟩:=zA HM.out.nod
     have HSRC:Hid (((w4.alloc (.cells #[.int .i64 t.kind,.int .i64 t.size,.slice B1 t.ws.length d1,.slice B2 t.bs.length d2,.slice B3 t.kids.length d3] 114)).alloc (.cells #[.int .i64 t.kind,.int .i64 t.size,.slice B1 t.ws.length d1,.slice B2 t.bs.length d2,.slice B3 t.kids.length d3] 114)).heap[w4.heap.size+1]? = some (.cells #[.int .i64 t.kind,.int .i64 t.size,.slice B1 t.ws.length d1,.slice B2 t.bs.length d2,.slice B3 t.kids.length d3] 114 (0,0))):=LH (zQ w4 _ _).2.1
     have HSZ:Hid (w.heap.size+2≤((w4.alloc (.cells #[.int .i64 t.kind,.int .i64 t.size,.slice B1 t.ws.length d1,.slice B2 t.bs.length d2,.slice B3 t.kids.length d3] 114)).alloc (.cells #[.int .i64 t.kind,.int .i64 t.size,.slice B1 t.ws.length d1,.slice B2 t.bs.length d2,.slice B3 t.kids.length d3] 114)).heap.size):=LH (by have:=(gE HM.out.nod).1;simp at this ⊢;omega)
     go_wp2_with (at_builtin;refine zL _ rfl _ _ 112 112 rfl (w.heap.size+2) 114 (.agg #[.int .i64 0,.int .i64 0,.slice none 0 0,.slice none 0 0,.slice none 0 0]) 5 88 zt zVA rfl (.slice A5 j c5) j (kcs rows) rfl (.slice (some ⟨w4.heap.size+1,0,none⟩) 1 1) 1 [.int .i64 t.kind,.int .i64 t.size,.slice B1 t.ws.length d1,.slice B2 t.bs.length d2,.slice B3 t.kids.length d3] rfl ?_ (by exact zE HM.out.own ((Keep.refl NoB _).alloc _) (fun _ _ h=>h)) (by exact Src.ofSlice _ zt ⟨w4.heap.size+1,0,none⟩ 1 1 _ rfl (World.news_of_block (cs:=#[.int .i64 t.kind,.int .i64 t.size,.slice B1 t.ws.length d1,.slice B2 t.bs.length d2,.slice B3 t.kids.length d3]) (t:=114) (fr:=(0,0)) HSRC.out) (by simp [Value.oneCell'])) (by simp only [maxLen];omega) (by omega) (by exact HSZ.out);intro v5 w5 hap;refine Hid.out ?_)
     refine LH ?_
     replace HM:=LH (HM.out.grow ((Keep.refl NoB _).alloc (.cells #[.int .i64 t.kind,.int .i64 t.size,.slice B1 t.ws.length d1,.slice B2 t.bs.length d2,.slice B3 t.kids.length d3] 114)))
     have hfin:=HM.out.appended (kid:=(t,.slice B1 t.ws.length d1,.slice B2 t.bs.length d2,.slice B3 t.kids.length d3)) hap HK.out.len (fun x hx=>by
      rcases List.mem_append.1 hx with e | e
      ·exact HK.out.ok x e
      ·rw [List.mem_singleton.1 e];exact HT2.out) HL.out.1 HL.out.2.1 HL.out.2.2 (fun m9 h9=>⟨fun x hx=>by
      rcases List.mem_append.1 hx with e | e
      ·exact (HK.out.sm m9 h9).1 x e
      ·rw [List.mem_singleton.1 e];exact (HSM4.out m9 h9).1,by
      have e1:=(HK.out.sm m9 h9).2
      have e2:=(HSM4.out m9 h9).2
      rw [List.map_append,List.sum_append]
      simp only [List.map_cons,List.map_nil,List.sum_cons,List.sum_nil]
      omega⟩)
     obtain ⟨A6,c6,rfl,_⟩:=zJ hap.own
     have HF:=LH hfin.1
     clear n0 n1 n2 n3 n4 nf t0 t1 t2 t3 t4 tf hap
     obtain ⟨n0,n1,n2,n3,n4,nf⟩:=zA hfin.2
     clear hfin
     go_wp2
     go_roundw
     case rel=>exact ⟨j+1,l2,A2,c2,A6,c6,_,by omega,by go_num,rfl,HF⟩
     case measure=>simp [intOf];omega
    ·obtain rfl:j=q:=by omega
     have hjt':¬ ((j:Int)<x/8%5):=by have:=HQQ.out;omega
     obtain ⟨hf0,hf1,hf2,hf3,hf4,hfr⟩:=zA HK.out.res
     obtain ⟨hw5,-⟩:=zZ (.int .i64 2) (.int .i64 6) (.slice A4 0 c4) (.slice none 0 0) (.slice A5 j c5) HK.out.keep (Nat.le_refl _) HK.out.res
     have HW5:=LH hw5
     have HP:Hid (TreePost deep (l.length+1) l.length v w (.returned (.tuple #[.agg #[.int .i64 2,.int .i64 6,.slice A4 0 c4,.slice none 0 0,.slice A5 j c5],.slice A0 lj.length c0])) (((((wr.setCell ⟨w.heap.size,0,none⟩ (.int .i64 2)).setCell ⟨w.heap.size,1,none⟩ (.int .i64 6)).setCell ⟨w.heap.size,2,none⟩ (.slice A4 0 c4)).setCell ⟨w.heap.size,3,none⟩ (.slice none 0 0)).setCell ⟨w.heap.size,4,none⟩ (.slice A5 j c5))) :=
      LH (HK.out.post (by have:=HDE.out.1;omega) (by rw [zP];simp [ownB];omega) (by rw [zP];simp [needN];omega) (zP x 0) (zb _ _ _ _ _) (by rw [zP];omega) (zVB x 0) (by omega))
     clear hw5
     go_wp2
     revert HW5 HP
     generalize (((((wr.setCell ⟨w.heap.size,0,none⟩ (.int .i64 2)).setCell ⟨w.heap.size,1,none⟩ (.int .i64 6)).setCell ⟨w.heap.size,2,none⟩ (.slice A4 0 c4)).setCell ⟨w.heap.size,3,none⟩ (.slice none 0 0)).setCell ⟨w.heap.size,4,none⟩ (.slice A5 j c5))=w5
     intro HW5 HP
     obtain ⟨hf0,hf1,hf2,hf3,hf4,hfr⟩:=zA HW5.out
     refine bodyPost_ret (v:=.tuple #[.agg #[.int .i64 2,.int .i64 6,.slice A4 0 c4,.slice none 0 0,.slice A5 j c5],.slice A0 lj.length c0]) ?_ rfl HP.out
     rw [results_cell_tmp rfl];go_simp
  ·have HK0:Hid (TK d l.length v w 2 6 (wdsK x 0) (.slice A4 0 c4) 0 (.slice none 0 0) [] l (some ⟨ad.block,ad.off+1,none⟩) (c-1) wr):=LH (TK.begin hb4 hb7 HS.out.1 (by rw [zP];exact HS.out.2.2) (by have:=HT.out;rw [HLN.out] at this;exact this) (Nat.le_refl _) HU.out.1)
   clear hb4 HS
   go_wp2_with fail
   clear hd0 hd1 hd2 hd3 hd4 hb7
   go_loopw [0,12,13,14] (fun v0 v12 v13 v14 wr=>∃ (j:Nat) (lj:List Int) (A0:Option Addr) (c0:Nat) (A5:Option Addr) (c5:Nat) (rows:List (Tr×Value×Value×Value)),j≤q∧v12=.int .i64 j∧v0=.slice A0 lj.length c0∧Hid (TK d l.length v w 2 6 (wdsK x 0) (.slice A4 0 c4) j (.slice A5 j c5) rows lj A0 c0 wr)) (fun _ v12 _ _ _=>q-(intOf v12).toNat)
   case atStart=>exact ⟨0,l,(some ⟨ad.block,ad.off+1,none⟩),(c-1),none,0,[],by omega,rfl,(by rw [HLN.out]),HK0⟩
   case round =>
    clear HK0
    obtain ⟨j,lj,A0,c0,A5,c5,rows,hj,rfl,rfl,HK⟩:=hrel
    obtain ⟨n0,n1,n2,n3,n4,nf⟩:=zA HK.out.nod
    by_cases hjt:j<q
    ·have hjt':(j:Int)<x/8%5:=by have:=HQQ.out;omega
     have hwj:IntKind.i64.wrap ((j:Int)+1)=(j:Int)+1:=IntWalk.i64_in _ (by omega)
     have hwd:IntKind.i64.wrap ((deep:Int)-1)=d:=by rw [HDE.out.1];exact IntWalk.i64_in _ (by have:=HDE.out.1;have:=HDE.out.2;omega)
     go_wp2_with fail
     refine (IH.out lj A0 c0 v wr (HV.out.grow HK.out.keep) HK.out.left (Nat.le_trans HK.out.le HU.out.2) HK.out.okl).mono ?_
     rintro e w4 ⟨t,B1,B2,B3,d1,d2,d3,l2,A2,c2,rfl,hg4,hf4,htn,htb,hl4,hle4,hok4,hsm4⟩
     have HM:=LH (HK.out.called hg4 hf4)
     have HL:=LH (And.intro hl4 (And.intro (Nat.le_trans hle4 HK.out.le) hok4))
     have HT2:=LH (And.intro htn htb)
     have HSM4:=LH hsm4
     clear hg4 hf4 htn htb hl4 hle4 hok4 hsm4 n0 n1 n2 n3 n4 nf
     have hga:=(Keep.refl NoB w4).alloc (.cells #[.int .i64 t.kind,.int .i64 t.size,.slice B1 t.ws.length d1,.slice B2 t.bs.length d2,.slice B3 t.kids.length d3] 114)
     have hna:=heap_alloc_new w4 (.cells #[.int .i64 t.kind,.int .i64 t.size,.slice B1 t.ws.length d1,.slice B2 t.bs.length d2,.slice B3 t.kids.length d3] 114)
     replace HM:=LH (HM.out.grow hga)
     have HNA:=LH hna
     clear hga hna
     obtain ⟨t0,t1,t2,t3,t4,tf⟩:=zA HNA.out
     obtain ⟨n0,n1,n2,n3,n4,nf⟩:=zA HM.out.nod
     have HSRC:Hid (((w4.alloc (.cells #[.int .i64 t.kind,.int .i64 t.size,.slice B1 t.ws.length d1,.slice B2 t.bs.length d2,.slice B3 t.kids.length d3] 114)).alloc (.cells #[.int .i64 t.kind,.int .i64 t.size,.slice B1 t.ws.length d1,.slice B2 t.bs.length d2,.slice B3 t.kids.length d3] 114)).heap[w4.heap.size+1]? = some (.cells #[.int .i64 t.kind,.int .i64 t.size,.slice B1 t.ws.length d1,.slice B2 t.bs.length d2,.slice B3 t.kids.length d3] 114 (0,0))):=LH (zQ w4 _ _).2.1
     have HSZ:Hid (w.heap.size+2≤((w4.alloc (.cells #[.int .i64 t.kind,.int .i64 t.size,.slice B1 t.ws.length d1,.slice B2 t.bs.length d2,.slice B3 t.kids.length d3] 114)).alloc (.cells #[.int .i64 t.kind,.int .i64 t.size,.slice B1 t.ws.length d1,.slice B2 t.bs.length d2,.slice B3 t.kids.length d3] 114)).heap.size):=LH (by have:=(gE HM.out.nod).1;simp at this ⊢;omega)
     go_wp2_with (at_builtin;refine zL _ rfl _ _ 112 112 rfl (w.heap.size+2) 114 (.agg #[.int .i64 0,.int .i64 0,.slice none 0 0,.slice none 0 0,.slice none 0 0]) 5 88 zt zVA rfl (.slice A5 j c5) j (kcs rows) rfl (.slice (some ⟨w4.heap.size+1,0,none⟩) 1 1) 1 [.int .i64 t.kind,.int .i64 t.size,.slice B1 t.ws.length d1,.slice B2 t.bs.length d2,.slice B3 t.kids.length d3] rfl ?_ (by exact zE HM.out.own ((Keep.refl NoB _).alloc _) (fun _ _ h=>h)) (by exact Src.ofSlice _ zt ⟨w4.heap.size+1,0,none⟩ 1 1 _ rfl (World.news_of_block (cs:=#[.int .i64 t.kind,.int .i64 t.size,.slice B1 t.ws.length d1,.slice B2 t.bs.length d2,.slice B3 t.kids.length d3]) (t:=114) (fr:=(0,0)) HSRC.out) (by simp [Value.oneCell'])) (by simp only [maxLen];omega) (by omega) (by exact HSZ.out);intro v5 w5 hap;refine Hid.out ?_)
     refine LH ?_
     replace HM:=LH (HM.out.grow ((Keep.refl NoB _).alloc (.cells #[.int .i64 t.kind,.int .i64 t.size,.slice B1 t.ws.length d1,.slice B2 t.bs.length d2,.slice B3 t.kids.length d3] 114)))
     have hfin:=HM.out.appended (kid:=(t,.slice B1 t.ws.length d1,.slice B2 t.bs.length d2,.slice B3 t.kids.length d3)) hap HK.out.len (fun x hx=>by
      rcases List.mem_append.1 hx with e | e
      ·exact HK.out.ok x e
      ·rw [List.mem_singleton.1 e];exact HT2.out) HL.out.1 HL.out.2.1 HL.out.2.2 (fun m9 h9=>⟨fun x hx=>by
      rcases List.mem_append.1 hx with e | e
      ·exact (HK.out.sm m9 h9).1 x e
      ·rw [List.mem_singleton.1 e];exact (HSM4.out m9 h9).1,by
      have e1:=(HK.out.sm m9 h9).2
      have e2:=(HSM4.out m9 h9).2
      rw [List.map_append,List.sum_append]
      simp only [List.map_cons,List.map_nil,List.sum_cons,List.sum_nil]
      omega⟩)
     obtain ⟨A6,c6,rfl,_⟩:=zJ hap.own
     have HF:=LH hfin.1
     clear n0 n1 n2 n3 n4 nf t0 t1 t2 t3 t4 tf hap
     obtain ⟨n0,n1,n2,n3,n4,nf⟩:=zA hfin.2
     clear hfin
     go_wp2
     go_roundw
     case rel=>exact ⟨j+1,l2,A2,c2,A6,c6,_,by omega,by go_num,rfl,HF⟩
     case measure=>simp [intOf];omega
    ·obtain rfl:j=q:=by omega
     have hjt':¬ ((j:Int)<x/8%5):=by have:=HQQ.out;omega
     obtain ⟨hf0,hf1,hf2,hf3,hf4,hfr⟩:=zA HK.out.res
     obtain ⟨hw5,-⟩:=zZ (.int .i64 2) (.int .i64 6) (.slice A4 0 c4) (.slice none 0 0) (.slice A5 j c5) HK.out.keep (Nat.le_refl _) HK.out.res
     have HW5:=LH hw5
     have HP:Hid (TreePost deep (l.length+1) l.length v w (.returned (.tuple #[.agg #[.int .i64 2,.int .i64 6,.slice A4 0 c4,.slice none 0 0,.slice A5 j c5],.slice A0 lj.length c0])) (((((wr.setCell ⟨w.heap.size,0,none⟩ (.int .i64 2)).setCell ⟨w.heap.size,1,none⟩ (.int .i64 6)).setCell ⟨w.heap.size,2,none⟩ (.slice A4 0 c4)).setCell ⟨w.heap.size,3,none⟩ (.slice none 0 0)).setCell ⟨w.heap.size,4,none⟩ (.slice A5 j c5))) :=
      LH (HK.out.post (by have:=HDE.out.1;omega) (by rw [zP];simp [ownB];omega) (by rw [zP];simp [needN];omega) (zP x 0) (zb _ _ _ _ _) (by rw [zP];omega) (zVB x 0) (by omega))
     clear hw5
     go_wp2
     revert HW5 HP
     generalize (((((wr.setCell ⟨w.heap.size,0,none⟩ (.int .i64 2)).setCell ⟨w.heap.size,1,none⟩ (.int .i64 6)).setCell ⟨w.heap.size,2,none⟩ (.slice A4 0 c4)).setCell ⟨w.heap.size,3,none⟩ (.slice none 0 0)).setCell ⟨w.heap.size,4,none⟩ (.slice A5 j c5))=w5
     intro HW5 HP
     obtain ⟨hf0,hf1,hf2,hf3,hf4,hfr⟩:=zA HW5.out
     refine bodyPost_ret (v:=.tuple #[.agg #[.int .i64 2,.int .i64 6,.slice A4 0 c4,.slice none 0 0,.slice A5 j c5],.slice A0 lj.length c0]) ?_ rfl HP.out
     rw [results_cell_tmp rfl];go_simp
theorem zzJ (x:Int) (ad:Addr) (deep:Nat) (v w:World) (hv:Grow v w) (h:SliceR 1 (.slice (some ad) 1 1) 1 (u8s [x]) v) (hx:0≤x∧x≤255) (hd:deep≠0) (d:Nat) (hde:(deep:Int)-1=d) (hdl:deep≤1000) (IH:Hid (TreeAt d)) (q:Nat) (hqq:(q:Int)=x/8%5) (hm:x%8=7) (m:Nat) (hmm:m=0) :
    Calls Tryz.prog 56 #[(.slice (some ad) 1 1),.int .i64 deep] w (TreePost deep (([]:List Int).length+1) ([]:List Int).length v w):=by
 have HV:=LH hv
 have HD0:=LH hd
 have HT:Hid (SliceR 1 (.slice (some ad) 0 0) 0 (u8s []) v):=LH ⟨some ad,0,rfl,Nat.le_refl _,by simp [u8s],fun _=>rfl,fun j u hu=>by simp [u8s] at hu⟩
 have hcell0:v.cell? ad=some (.int .u8 x):=by
  obtain ⟨A9,c9,e9,_,_,_,hq⟩:=h
  injection e9 with e9 _ _
  obtain ⟨a9,e8,hc⟩:=hq 0 (.int .u8 x) rfl
  rw [← e9] at e8
  injection e8 with e8
  subst e8
  rw [Addr.add_zero'] at hc
  exact hc
 have hcell:=hv.cell hcell0 (fun h=>h)
 clear hcell0 hv
 have hu:okU []:=fun y hy=>by cases hy
 have hn:0=([]:List Int).length:=rfl
 have hdq:(((deep:Nat):Int)==0)=false:=beq_eq_false_iff_ne.2 (by omega)
 have hmb:(x%8==0)=false:=beq_eq_false_iff_ne.2 (by omega)
 have hm1:(x%8==1)=false:=beq_eq_false_iff_ne.2 (by omega)
 have hm2:(x%8==2)=false:=beq_eq_false_iff_ne.2 (by omega)
 have hm3:(x%8==3)=false:=beq_eq_false_iff_ne.2 (by omega)
 have hm6:6<x%8:=by omega
 have HMM:=LH hmm
 have HQQ:=LH hqq
 have hm9:m≤20:=by omega
 have hq9:q≤4:=by omega
 have HU:Hid (okU ([]:List Int)∧([]:List Int).length≤1000000):=LH ⟨hu,by simp⟩
 have HDE:=LH (And.intro hde hdl)
 have hga:=(Keep.refl NoB w).alloc (.cells #[.int .i64 0,.int .i64 0,.slice none 0 0,.slice none 0 0,.slice none 0 0] 114)
 have hgb:=hga.alloc (.cells #[.int .i64 0,.int .i64 0,.slice none 0 0,.slice none 0 0,.slice none 0 0] 114)
 have hcell2:=hga.cell hcell (fun h=>h)
 have HX:Hid (0≤x∧x≤255):=LH hx
 obtain ⟨hx1,hx2⟩:=hx
 have HN9:=LH hn
 clear h hm hmm hqq hd hn hcell hga hgb hu hde hdl
 go_enter Tryz.func56,Tryz.ntmps56
 go_wp2_with fail
 have hy1:0≤x/8%5:=by omega
 have hy2:x/8%5≤4:=by omega
 have hz1:0≤x/64:=by omega
 have hz2:x/64≤3:=by omega
 go_loopw [11] (fun v wr=>∃ k:Nat,k≤m∧v=.int .i64 k∧∃ A4 c4,wr.heap[w.heap.size]? = some (.cells #[.int .i64 0,.int .i64 0,.slice none 0 0,.slice none 0 0,.slice none 0 0] 114 (0,0))∧wr.heap[w.heap.size+1]? = some (.cells #[.int .i64 2,.int .i64 6,.slice A4 k c4,.slice none 0 0,.slice none 0 0] 114 (0,0))∧Hid (Grow w wr∧w.heap.size+2≤wr.heap.size∧wr.ownsRow (w.heap.size+2) 22 1 (.slice A4 k c4) k (u64s (wdsK x k)))) (fun v _=>m-(intOf v).toNat)
 case atStart=>exact ⟨0,by omega,rfl,none,0,(zQ w _ _).1,(zQ w _ _).2.1,((Keep.refl NoB w).alloc _).alloc _,Nat.le_of_eq (zQ w _ _).2.2.symm,World.ownsRow_nil _ (w.heap.size+2) 22 1⟩
 case round =>
  obtain ⟨k,hk,rfl,A4,c4,hb4,hb7,HS⟩:=hrel
  have hwb:IntKind.i64.wrap (x/8%5)=x/8%5:=IntWalk.i64_in _ (by omega)
  have hwc:IntKind.i64.wrap (x/64)=x/64:=IntWalk.i64_in _ (by omega)
  have hd0:wr.cell? ⟨w.heap.size+1,0,none⟩=_:=World.news_of_block hb7 0 _ rfl
  have hd1:wr.cell? ⟨w.heap.size+1,1,none⟩=_:=World.news_of_block hb7 1 _ rfl
  have hd2:wr.cell? ⟨w.heap.size+1,2,none⟩=_:=World.news_of_block hb7 2 _ rfl
  have hd3:wr.cell? ⟨w.heap.size+1,3,none⟩=_:=World.news_of_block hb7 3 _ rfl
  have hd4:wr.cell? ⟨w.heap.size+1,4,none⟩=_:=World.news_of_block hb7 4 _ rfl
  obtain rfl:m=0:=HMM.out
  obtain rfl:k=0:=by omega
  rcases Decidable.em ((0:Int)<x/64) with hlt2 | hlt2
  ·have HK0:Hid (TK d ([]:List Int).length v w 2 6 (wdsK x 0) (.slice A4 0 c4) 0 (.slice none 0 0) [] ([]:List Int) (some ad) 0 wr):=LH (TK.begin hb4 hb7 HS.out.1 (by rw [zP];exact HS.out.2.2) HT.out (Nat.le_refl _) HU.out.1)
   clear hb4 HS
   go_wp2_with fail
   clear hd0 hd1 hd2 hd3 hd4 hb7
   go_loopw [0,12,13,14] (fun v0 v12 v13 v14 wr=>∃ (j:Nat) (lj:List Int) (A0:Option Addr) (c0:Nat) (A5:Option Addr) (c5:Nat) (rows:List (Tr×Value×Value×Value)),j≤q∧v12=.int .i64 j∧v0=.slice A0 lj.length c0∧Hid (TK d ([]:List Int).length v w 2 6 (wdsK x 0) (.slice A4 0 c4) j (.slice A5 j c5) rows lj A0 c0 wr)) (fun _ v12 _ _ _=>q-(intOf v12).toNat)
   case atStart=>exact ⟨0,([]:List Int),(some ad),0,none,0,[],by omega,rfl,rfl,HK0⟩
   case round =>
    clear HK0
    obtain ⟨j,lj,A0,c0,A5,c5,rows,hj,rfl,rfl,HK⟩:=hrel
    obtain ⟨n0,n1,n2,n3,n4,nf⟩:=zA HK.out.nod
    by_cases hjt:j<q
    ·have hjt':(j:Int)<x/8%5:=by have:=HQQ.out;omega
     have hwj:IntKind.i64.wrap ((j:Int)+1)=(j:Int)+1:=IntWalk.i64_in _ (by omega)
     have hwd:IntKind.i64.wrap ((deep:Int)-1)=d:=by rw [HDE.out.1];exact IntWalk.i64_in _ (by have:=HDE.out.1;have:=HDE.out.2;omega)
     go_wp2_with fail
     refine (IH.out lj A0 c0 v wr (HV.out.grow HK.out.keep) HK.out.left (Nat.le_trans HK.out.le HU.out.2) HK.out.okl).mono ?_
     rintro e w4 ⟨t,B1,B2,B3,d1,d2,d3,l2,A2,c2,rfl,hg4,hf4,htn,htb,hl4,hle4,hok4,hsm4⟩
     have HM:=LH (HK.out.called hg4 hf4)
     have HL:=LH (And.intro hl4 (And.intro (Nat.le_trans hle4 HK.out.le) hok4))
     have HT2:=LH (And.intro htn htb)
     have HSM4:=LH hsm4
     clear hg4 hf4 htn htb hl4 hle4 hok4 hsm4 n0 n1 n2 n3 n4 nf
     have hga:=(Keep.refl NoB w4).alloc (.cells #[.int .i64 t.kind,.int .i64 t.size,.slice B1 t.ws.length d1,.slice B2 t.bs.length d2,.slice B3 t.kids.length d3] 114)
     have hna:=heap_alloc_new w4 (.cells #[.int .i64 t.kind,.int .i64 t.size,.slice B1 t.ws.length d1,.slice B2 t.bs.length d2,.slice B3 t.kids.length d3] 114)
     replace HM:=LH (HM.out.grow hga)
     have HNA:=LH hna
     clear hga hna
     obtain ⟨t0,t1,t2,t3,t4,tf⟩:=zA HNA.out
     obtain ⟨n0,n1,n2,n3,n4,nf⟩:=zA HM.out.nod
     have HSRC:Hid (((w4.alloc (.cells #[.int .i64 t.kind,.int .i64 t.size,.slice B1 t.ws.length d1,.slice B2 t.bs.length d2,.slice B3 t.kids.length d3] 114)).alloc (.cells #[.int .i64 t.kind,.int .i64 t.size,.slice B1 t.ws.length d1,.slice B2 t.bs.length d2,.slice B3 t.kids.length d3] 114)).heap[w4.heap.size+1]? = some (.cells #[.int .i64 t.kind,.int .i64 t.size,.slice B1 t.ws.length d1,.slice B2 t.bs.length d2,.slice B3 t.kids.length d3] 114 (0,0))):=LH (zQ w4 _ _).2.1
     have HSZ:Hid (w.heap.size+2≤((w4.alloc (.cells #[.int .i64 t.kind,.int .i64 t.size,.slice B1 t.ws.length d1,.slice B2 t.bs.length d2,.slice B3 t.kids.length d3] 114)).alloc (.cells #[.int .i64 t.kind,.int .i64 t.size,.slice B1 t.ws.length d1,.slice B2 t.bs.length d2,.slice B3 t.kids.length d3] 114)).heap.size):=LH (by have:=(gE HM.out.nod).1;simp at this ⊢;omega)
     go_wp2_with (at_builtin;refine zL _ rfl _ _ 112 112 rfl (w.heap.size+2) 114 (.agg #[.int .i64 0,.int .i64 0,.slice none 0 0,.slice none 0 0,.slice none 0 0]) 5 88 zt zVA rfl (.slice A5 j c5) j (kcs rows) rfl (.slice (some ⟨w4.heap.size+1,0,none⟩) 1 1) 1 [.int .i64 t.kind,.int .i64 t.size,.slice B1 t.ws.length d1,.slice B2 t.bs.length d2,.slice B3 t.kids.length d3] rfl ?_ (by exact zE HM.out.own ((Keep.refl NoB _).alloc _) (fun _ _ h=>h)) (by exact Src.ofSlice _ zt ⟨w4.heap.size+1,0,none⟩ 1 1 _ rfl (World.news_of_block (cs:=#[.int .i64 t.kind,.int .i64 t.size,.slice B1 t.ws.length d1,.slice B2 t.bs.length d2,.slice B3 t.kids.length d3]) (t:=114) (fr:=(0,0)) HSRC.out) (by simp [Value.oneCell'])) (by simp only [maxLen];omega) (by omega) (by exact HSZ.out);intro v5 w5 hap;refine Hid.out ?_)
     refine LH ?_
     replace HM:=LH (HM.out.grow ((Keep.refl NoB _).alloc (.cells #[.int .i64 t.kind,.int .i64 t.size,.slice B1 t.ws.length d1,.slice B2 t.bs.length d2,.slice B3 t.kids.length d3] 114)))
     have hfin:=HM.out.appended (kid:=(t,.slice B1 t.ws.length d1,.slice B2 t.bs.length d2,.slice B3 t.kids.length d3)) hap HK.out.len (fun x hx=>by
      rcases List.mem_append.1 hx with e | e
      ·exact HK.out.ok x e
      ·rw [List.mem_singleton.1 e];exact HT2.out) HL.out.1 HL.out.2.1 HL.out.2.2 (fun m9 h9=>⟨fun x hx=>by
      rcases List.mem_append.1 hx with e | e
      ·exact (HK.out.sm m9 h9).1 x e
      ·rw [List.mem_singleton.1 e];exact (HSM4.out m9 h9).1,by
      have e1:=(HK.out.sm m9 h9).2
      have e2:=(HSM4.out m9 h9).2
      rw [List.map_append,List.sum_append]
      simp only [List.map_cons,List.map_nil,List.sum_cons,List.sum_nil]
      omega⟩)
     obtain ⟨A6,c6,rfl,_⟩:=zJ hap.own
     have HF:=LH hfin.1
     clear n0 n1 n2 n3 n4 nf t0 t1 t2 t3 t4 tf hap
     obtain ⟨n0,n1,n2,n3,n4,nf⟩:=zA hfin.2
     clear hfin
     go_wp2
     go_roundw
     case rel=>exact ⟨j+1,l2,A2,c2,A6,c6,_,by omega,by go_num,rfl,HF⟩
     case measure=>simp [intOf];omega
    ·obtain rfl:j=q:=by omega
     have hjt':¬ ((j:Int)<x/8%5):=by have:=HQQ.out;omega
     obtain ⟨hf0,hf1,hf2,hf3,hf4,hfr⟩:=zA HK.out.res
     obtain ⟨hw5,-⟩:=zZ (.int .i64 2) (.int .i64 6) (.slice A4 0 c4) (.slice none 0 0) (.slice A5 j c5) HK.out.keep (Nat.le_refl _) HK.out.res
     have HW5:=LH hw5
     have HP:Hid (TreePost deep (([]:List Int).length+1) ([]:List Int).length v w (.returned (.tuple #[.agg #[.int .i64 2,.int .i64 6,.slice A4 0 c4,.slice none 0 0,.slice A5 j c5],.slice A0 lj.length c0])) (((((wr.setCell ⟨w.heap.size,0,none⟩ (.int .i64 2)).setCell ⟨w.heap.size,1,none⟩ (.int .i64 6)).setCell ⟨w.heap.size,2,none⟩ (.slice A4 0 c4)).setCell ⟨w.heap.size,3,none⟩ (.slice none 0 0)).setCell ⟨w.heap.size,4,none⟩ (.slice A5 j c5))) :=
      LH (HK.out.post (by have:=HDE.out.1;omega) (by rw [zP];simp [ownB];omega) (by rw [zP];simp [needN];omega) (zP x 0) (zb _ _ _ _ _) (by rw [zP];omega) (zVB x 0) (by omega))
     clear hw5
     go_wp2
     revert HW5 HP
     generalize (((((wr.setCell ⟨w.heap.size,0,none⟩ (.int .i64 2)).setCell ⟨w.heap.size,1,none⟩ (.int .i64 6)).setCell ⟨w.heap.size,2,none⟩ (.slice A4 0 c4)).setCell ⟨w.heap.size,3,none⟩ (.slice none 0 0)).setCell ⟨w.heap.size,4,none⟩ (.slice A5 j c5))=w5
     intro HW5 HP
     obtain ⟨hf0,hf1,hf2,hf3,hf4,hfr⟩:=zA HW5.out
     refine bodyPost_ret (v:=.tuple #[.agg #[.int .i64 2,.int .i64 6,.slice A4 0 c4,.slice none 0 0,.slice A5 j c5],.slice A0 lj.length c0]) ?_ rfl HP.out
     rw [results_cell_tmp rfl];go_simp
  ·have HK0:Hid (TK d ([]:List Int).length v w 2 6 (wdsK x 0) (.slice A4 0 c4) 0 (.slice none 0 0) [] ([]:List Int) (some ad) 0 wr):=LH (TK.begin hb4 hb7 HS.out.1 (by rw [zP];exact HS.out.2.2) HT.out (Nat.le_refl _) HU.out.1)
   clear hb4 HS
   go_wp2_with fail
   clear hd0 hd1 hd2 hd3 hd4 hb7
   go_loopw [0,12,13,14] (fun v0 v12 v13 v14 wr=>∃ (j:Nat) (lj:List Int) (A0:Option Addr) (c0:Nat) (A5:Option Addr) (c5:Nat) (rows:List (Tr×Value×Value×Value)),j≤q∧v12=.int .i64 j∧v0=.slice A0 lj.length c0∧Hid (TK d ([]:List Int).length v w 2 6 (wdsK x 0) (.slice A4 0 c4) j (.slice A5 j c5) rows lj A0 c0 wr)) (fun _ v12 _ _ _=>q-(intOf v12).toNat)
   case atStart=>exact ⟨0,([]:List Int),(some ad),0,none,0,[],by omega,rfl,rfl,HK0⟩
   case round =>
    clear HK0
    obtain ⟨j,lj,A0,c0,A5,c5,rows,hj,rfl,rfl,HK⟩:=hrel
    obtain ⟨n0,n1,n2,n3,n4,nf⟩:=zA HK.out.nod
    by_cases hjt:j<q
    ·have hjt':(j:Int)<x/8%5:=by have:=HQQ.out;omega
     have hwj:IntKind.i64.wrap ((j:Int)+1)=(j:Int)+1:=IntWalk.i64_in _ (by omega)
     have hwd:IntKind.i64.wrap ((deep:Int)-1)=d:=by rw [HDE.out.1];exact IntWalk.i64_in _ (by have:=HDE.out.1;have:=HDE.out.2;omega)
     go_wp2_with fail
     refine (IH.out lj A0 c0 v wr (HV.out.grow HK.out.keep) HK.out.left (Nat.le_trans HK.out.le HU.out.2) HK.out.okl).mono ?_
     rintro e w4 ⟨t,B1,B2,B3,d1,d2,d3,l2,A2,c2,rfl,hg4,hf4,htn,htb,hl4,hle4,hok4,hsm4⟩
     have HM:=LH (HK.out.called hg4 hf4)
     have HL:=LH (And.intro hl4 (And.intro (Nat.le_trans hle4 HK.out.le) hok4))
     have HT2:=LH (And.intro htn htb)
     have HSM4:=LH hsm4
     clear hg4 hf4 htn htb hl4 hle4 hok4 hsm4 n0 n1 n2 n3 n4 nf
     have hga:=(Keep.refl NoB w4).alloc (.cells #[.int .i64 t.kind,.int .i64 t.size,.slice B1 t.ws.length d1,.slice B2 t.bs.length d2,.slice B3 t.kids.length d3] 114)
     have hna:=heap_alloc_new w4 (.cells #[.int .i64 t.kind,.int .i64 t.size,.slice B1 t.ws.length d1,.slice B2 t.bs.length d2,.slice B3 t.kids.length d3] 114)
     replace HM:=LH (HM.out.grow hga)
     have HNA:=LH hna
     clear hga hna
     obtain ⟨t0,t1,t2,t3,t4,tf⟩:=zA HNA.out
     obtain ⟨n0,n1,n2,n3,n4,nf⟩:=zA HM.out.nod
     have HSRC:Hid (((w4.alloc (.cells #[.int .i64 t.kind,.int .i64 t.size,.slice B1 t.ws.length d1,.slice B2 t.bs.length d2,.slice B3 t.kids.length d3] 114)).alloc (.cells #[.int .i64 t.kind,.int .i64 t.size,.slice B1 t.ws.length d1,.slice B2 t.bs.length d2,.slice B3 t.kids.length d3] 114)).heap[w4.heap.size+1]? = some (.cells #[.int .i64 t.kind,.int .i64 t.size,.slice B1 t.ws.length d1,.slice B2 t.bs.length d2,.slice B3 t.kids.length d3] 114 (0,0))):=LH (zQ w4 _ _).2.1
     have HSZ:Hid (w.heap.size+2≤((w4.alloc (.cells #[.int .i64 t.kind,.int .i64 t.size,.slice B1 t.ws.length d1,.slice B2 t.bs.length d2,.slice B3 t.kids.length d3] 114)).alloc (.cells #[.int .i64 t.kind,.int .i64 t.size,.slice B1 t.ws.length d1,.slice B2 t.bs.length d2,.slice B3 t.kids.length d3] 114)).heap.size):=LH (by have:=(gE HM.out.nod).1;simp at this ⊢;omega)
     go_wp2_with (at_builtin;refine zL _ rfl _ _ 112 112 rfl (w.heap.size+2) 114 (.agg #[.int .i64 0,.int .i64 0,.slice none 0 0,.slice none 0 0,.slice none 0 0]) 5 88 zt zVA rfl (.slice A5 j c5) j (kcs rows) rfl (.slice (some ⟨w4.heap.size+1,0,none⟩) 1 1) 1 [.int .i64 t.kind,.int .i64 t.size,.slice B1 t.ws.length d1,.slice B2 t.bs.length d2,.slice B3 t.kids.length d3] rfl ?_ (by exact zE HM.out.own ((Keep.refl NoB _).alloc _) (fun _ _ h=>h)) (by exact Src.ofSlice _ zt ⟨w4.heap.size+1,0,none⟩ 1 1 _ rfl (World.news_of_block (cs:=#[.int .i64 t.kind,.int .i64 t.size,.slice B1 t.ws.length d1,.slice B2 t.bs.length d2,.slice B3 t.kids.length d3]) (t:=114) (fr:=(0,0)) HSRC.out) (by simp [Value.oneCell'])) (by simp only [maxLen];omega) (by omega) (by exact HSZ.out);intro v5 w5 hap;refine Hid.out ?_)
     refine LH ?_
     replace HM:=LH (HM.out.grow ((Keep.refl NoB _).alloc (.cells #[.int .i64 t.kind,.int .i64 t.size,.slice B1 t.ws.length d1,.slice B2 t.bs.length d2,.slice B3 t.kids.length d3] 114)))
     have hfin:=HM.out.appended (kid:=(t,.slice B1 t.ws.length d1,.slice B2 t.bs.length d2,.slice B3 t.kids.length d3)) hap HK.out.len (fun x hx=>by
      rcases List.mem_append.1 hx with e | e
      ·exact HK.out.ok x e
      ·rw [List.mem_singleton.1 e];exact HT2.out) HL.out.1 HL.out.2.1 HL.out.2.2 (fun m9 h9=>⟨fun x hx=>by
      rcases List.mem_append.1 hx with e | e
      ·exact (HK.out.sm m9 h9).1 x e
      ·rw [List.mem_singleton.1 e];exact (HSM4.out m9 h9).1,by
      have e1:=(HK.out.sm m9 h9).2
      have e2:=(HSM4.out m9 h9).2
      rw [List.map_append,List.sum_append]
      simp only [List.map_cons,List.map_nil,List.sum_cons,List.sum_nil]
      omega⟩)
     obtain ⟨A6,c6,rfl,_⟩:=zJ hap.own
     have HF:=LH hfin.1
     clear n0 n1 n2 n3 n4 nf t0 t1 t2 t3 t4 tf hap
     obtain ⟨n0,n1,n2,n3,n4,nf⟩:=zA hfin.2
     clear hfin
     go_wp2
     go_roundw
     case rel=>exact ⟨j+1,l2,A2,c2,A6,c6,_,by omega,by go_num,rfl,HF⟩
     case measure=>simp [intOf];omega
    ·obtain rfl:j=q:=by omega
     have hjt':¬ ((j:Int)<x/8%5):=by have:=HQQ.out;omega
     obtain ⟨hf0,hf1,hf2,hf3,hf4,hfr⟩:=zA HK.out.res
     obtain ⟨hw5,-⟩:=zZ (.int .i64 2) (.int .i64 6) (.slice A4 0 c4) (.slice none 0 0) (.slice A5 j c5) HK.out.keep (Nat.le_refl _) HK.out.res
     have HW5:=LH hw5
     have HP:Hid (TreePost deep (([]:List Int).length+1) ([]:List Int).length v w (.returned (.tuple #[.agg #[.int .i64 2,.int .i64 6,.slice A4 0 c4,.slice none 0 0,.slice A5 j c5],.slice A0 lj.length c0])) (((((wr.setCell ⟨w.heap.size,0,none⟩ (.int .i64 2)).setCell ⟨w.heap.size,1,none⟩ (.int .i64 6)).setCell ⟨w.heap.size,2,none⟩ (.slice A4 0 c4)).setCell ⟨w.heap.size,3,none⟩ (.slice none 0 0)).setCell ⟨w.heap.size,4,none⟩ (.slice A5 j c5))) :=
      LH (HK.out.post (by have:=HDE.out.1;omega) (by rw [zP];simp [ownB];omega) (by rw [zP];simp [needN];omega) (zP x 0) (zb _ _ _ _ _) (by rw [zP];omega) (zVB x 0) (by omega))
     clear hw5
     go_wp2
     revert HW5 HP
     generalize (((((wr.setCell ⟨w.heap.size,0,none⟩ (.int .i64 2)).setCell ⟨w.heap.size,1,none⟩ (.int .i64 6)).setCell ⟨w.heap.size,2,none⟩ (.slice A4 0 c4)).setCell ⟨w.heap.size,3,none⟩ (.slice none 0 0)).setCell ⟨w.heap.size,4,none⟩ (.slice A5 j c5))=w5
     intro HW5 HP
     obtain ⟨hf0,hf1,hf2,hf3,hf4,hfr⟩:=zA HW5.out
     refine bodyPost_ret (v:=.tuple #[.agg #[.int .i64 2,.int .i64 6,.slice A4 0 c4,.slice none 0 0,.slice A5 j c5],.slice A0 lj.length c0]) ?_ rfl HP.out
     rw [results_cell_tmp rfl];go_simp
theorem TreePost.mono {d L n m:Nat} (hnm:n≤m) {v w:World} {e:Ending} {w':World} (h:TreePost d L n v w e w'):TreePost d L m v w e w':=by
 obtain ⟨t,A1,A2,A3,c1,c2,c3,l',A',c',h1,h2,h3,h4,h5,h6,h7,h8⟩:=h
 exact ⟨t,A1,A2,A3,c1,c2,c3,l',A',c',h1,h2,h3,h4,h5,h6,Nat.le_trans h7 hnm,h8⟩
theorem zrF:∀ d:Nat,d≤1000→TreeAt d
 | 0,_=>fun l A c v w hv h hl hu=>zpF l A c 0 v w h hl hu (.inr rfl) 0
 | d + 1, hd => by
  intro l A c v w hv h hl hu
  have IH:Hid (TreeAt d):=LH (zrF d (by omega))
  cases l with
  | nil=>exact zpF [] A c _ v w h hl hu (.inl rfl) _
  | cons x r =>
   have hx:=hu x (List.mem_cons_self ..)
   have hur:okU r:=fun y hy=>hu y (List.mem_cons_of_mem _ hy)
   have hlr:r.length≤1000000:=by simp at hl;omega
   obtain ⟨ad,rfl⟩:∃ ad,A=some ad:=by
    obtain ⟨A9,c9,e9,_,_,_,hq⟩:=h
    injection e9 with e1 _ _
    obtain ⟨ad,ha,_⟩:=hq 0 (.int .u8 x) rfl
    exact ⟨ad,e1.trans ha⟩
   have hdd:(d+1:Nat)≠0:=by omega
   have hde:(((d+1:Nat):Int))-1=d:=by omega
   have hcs:x%8=0∨(x%8=1∨x%8=2)∨x%8=3∨(4≤x%8∧x%8≤6)∨x%8=7:=by omega
   by_cases hc1:c=1
   ·subst hc1
    obtain rfl:r=[]:=by
     obtain ⟨_,_,e,h2,_⟩:=h
     injection e with _ _ e3
     simp at h2
     exact List.eq_nil_of_length_eq_zero (by omega)
    have hm0:∀ {e w'},TreePost (d+1) (([]:List Int).length+1) ([]:List Int).length v w e w'→TreePost (d+1) [x].length [x].length v w e w':=fun hp=>hp.mono (by simp)
    rcases hcs with hc | hc | hc | hc | hc
    ·exact (ztJ x ad (d+1) v w hv h hx hdd hc).mono (fun _ _ hp=>hm0 hp)
    ·exact (zqI x ad (d+1) v w hv h hx hdd (3*(x/8%5)+x%2).toNat (by omega) hc).mono (fun _ _ hp=>hm0 hp)
    ·exact (zvJ x ad (d+1) v w hv h hx hdd (x/8%5).toNat (by omega) hc).mono (fun _ _ hp=>hm0 hp)
    ·exact (zxJ x ad (d+1) v w hv h hx hdd d hde hd IH (x/8%5).toNat (by omega) hc (x/64).toNat (by omega)).mono (fun _ _ hp=>hm0 hp)
    ·exact (zzJ x ad (d+1) v w hv h hx hdd d hde hd IH (x/8%5).toNat (by omega) hc 0 rfl).mono (fun _ _ hp=>hm0 hp)
   ·have hm0:∀ {e w'},TreePost (d+1) (r.length+1) r.length v w e w'→TreePost (d+1) (x :: r).length (x :: r).length v w e w':=fun hp=>hp.mono (by simp)
    have hn:(x :: r).length=r.length+1:=rfl
    generalize (x :: r).length=n at h hn hm0 ⊢
    rcases hcs with hc | hc | hc | hc | hc
    ·exact (zsJ x r ad n c (d+1) v w hv h hn hlr hx hur hdd hc1 hc).mono (fun _ _ hp=>hm0 hp)
    ·exact (zpI x r ad n c (d+1) v w hv h hn hlr hx hur hdd hc1 (3*(x/8%5)+x%2).toNat (by omega) hc).mono (fun _ _ hp=>hm0 hp)
    ·exact (zuJ x r ad n c (d+1) v w hv h hn hlr hx hur hdd hc1 (x/8%5).toNat (by omega) hc).mono (fun _ _ hp=>hm0 hp)
    ·exact (zwJ x r ad n c (d+1) v w hv h hn hlr hx hur hdd hc1 d hde hd IH (x/8%5).toNat (by omega) hc (x/64).toNat (by omega)).mono (fun _ _ hp=>hm0 hp)
    ·exact (zyJ x r ad n c (d+1) v w hv h hn hlr hx hur hdd hc1 d hde hd IH (x/8%5).toNat (by omega) hc 0 rfl).mono (fun _ _ hp=>hm0 hp)
def BentFit (w:World) (e:Ending) (w':World):Prop:=∃ (a:List (List Int)) (A:Option Addr) (c:Nat),e=.returned (.slice A a.length c)∧Grow w w'∧OkA a∧fitsB (szs a)=true∧RowsN w.heap.size a (.slice A a.length c) w'
theorem OkA.of_lim {a:List (List Int)} (h:LimA a) (hn:NumA a):OkA a:=⟨by have:=h.1;omega,fun s hs=>by have:=h.2 s hs;omega,fun s hs x hx=>hn s hs x hx⟩
def updR (p:Addr) (x:Int):Value→List Int→List Int
 | .slice (some ad) _ _,r=>r.mapIdx (fun m y=>if ad.add m=p then x else y)
 | _,r=>r
theorem zAC (p:Addr) (x:Int) (v:Value) (r:List Int):(updR p x v r).length=r.length:=by
 unfold updR
 split <;> simp
theorem zsK {p:Addr} {x:Int} {v:Value} {r:List Int} (h:okW r) (h0:0≤x) (h1:x≤18446744073709551615):okW (updR p x v r):=by
 unfold updR
 split
 ·intro y hy
  obtain ⟨i,hi,rfl⟩:=List.getElem_of_mem hy
  simp only [List.getElem_mapIdx]
  split
  ·exact ⟨h0,h1⟩
  ·exact h _ (List.getElem_mem _)
 ·exact h
def updA (p:Addr) (x:Int) (vs:List Value) (a:List (List Int)):List (List Int):=List.zipWith (updR p x) vs a
theorem zjA {p:Addr} {x:Int} {vs:List Value} {a:List (List Int)} (h:vs.length=a.length):(updA p x vs a).length=a.length:=by simp [updA,h]
theorem zdD {p:Addr} {x:Int} {vs:List Value} {a:List (List Int)} (i:Nat) (hv:i<vs.length) (ha:i<a.length) (hi:i<(updA p x vs a).length):(updA p x vs a)[i]=updR p x vs[i] a[i]:=by simp [updA]
theorem zAK {p:Addr} {x:Int} {vs:List Value} {a:List (List Int)} (h:vs.length=a.length):szs (updA p x vs a)=szs a:=by
 refine List.ext_getElem (by simp [szs,zjA h]) (fun i h1 h2=>?_)
 have hi:i<a.length:=by simpa [szs] using h2
 simp only [szs,List.getElem_map]
 rw [zdD i (by omega) hi (by rw [zjA h];exact hi),zAC]
theorem ztK {p:Addr} {x:Int} {vs:List Value} {a:List (List Int)} (h:vs.length=a.length) (ho:OkA a) (h0:0≤x) (h1:x≤18446744073709551615):OkA (updA p x vs a):=by
 have hm:∀ s∈updA p x vs a,∃ i,∃ (hi:i<a.length),∃ v,s=updR p x v a[i]:=fun s hs=>by
  obtain ⟨i,hi,rfl⟩:=List.getElem_of_mem hs
  have hi2:i<a.length:=by rwa [zjA h] at hi
  exact ⟨i,hi2,_,zdD i (by omega) hi2 hi⟩
 refine ⟨by rw [zjA h];exact ho.segs,fun s hs=>?_,fun s hs=>?_⟩
 ·obtain ⟨i,hi,v,rfl⟩:=hm s hs
  rw [zAC]
  exact ho.words _ (List.getElem_mem hi)
 ·obtain ⟨i,hi,v,rfl⟩:=hm s hs
  exact zsK (ho.nums _ (List.getElem_mem hi)) h0 h1
theorem zBK {w W':World} {p:Addr} {x o:Value} (h0:w.cell? p=some o) {k:Nat} (h:W'.heap[k]? = (w.setCell p x).heap[k]?):(W'.setCell p o).heap[k]? = w.heap[k]? := by
 by_cases e:p.block=k
 ·subst e
  simp only [World.setCell,Array.getElem?_modify,↓reduceIte] at h ⊢
  rw [h]
  unfold World.cell? at h0
  cases hh:w.heap[p.block]? with
  | none=>simp
  | some ob =>
   rw [hh] at h0
   cases ob with
   | cells c t f =>
    simp only at h0
    cases hs:p.spot.isSome with
    | true=>simp [hs] at h0
    | false =>
     simp only [hs,Bool.false_eq_true,↓reduceIte] at h0
     simp only [Option.map_some,hs,Bool.false_eq_true,↓reduceIte,Option.some.injEq,Obj.cells.injEq,and_true]
     obtain ⟨hlt,he⟩:=gE h0
     refine Array.ext (by simp) (fun i h1 h2=>?_)
     by_cases hi:p.off=i
     ·subst hi;simp [he]
     ·rw [Array.getElem_setIfInBounds (by simpa using h2),Array.getElem_setIfInBounds h2]
      simp [hi]
   | _=>simp at h0
 ·rw [Below.heap_setCell _ _ _ _ (fun h9=>e h9.symm),h,Below.heap_setCell _ _ _ _ (fun h9=>e h9.symm)]
theorem UnA.at_ {ad:Addr} {n i:Nat} {w:World} (h:UnA (some ad) n w) (hi:i<n):w.frozen? (ad.add i)=false:=by
 have:=(h (by omega) ad rfl).2 (ad.add i).off
 rw [← zZE ad i] at this
 exact this
theorem RowsN.store {B:Nat} {a:List (List Int)} {A:Option Addr} {c:Nat} {w:World} (h:RowsN B a (.slice A a.length c) w) (s t:Nat) (hs:s<a.length) (ht:t<a[s].length) :
    ∃ (ad ad2:Addr) (c2:Nat),A=some ad∧w.cell? (ad.add s)=some (.slice (some ad2) a[s].length c2)∧(∃ y,w.cell? (ad2.add t)=some (.int .u64 y))∧w.frozen? (ad2.add t)=false∧B≤(ad2.add t).block ∧
     ∀ x:Int,0≤x→x≤18446744073709551615→OkA a→∃ a':List (List Int),a'.length=a.length∧szs a'=szs a∧OkA a'∧RowsN B a' (.slice A a'.length c) (w.setCell (ad2.add t) (.int .u64 x)):=by
 obtain ⟨F,hF,hB⟩:=h
 obtain ⟨vs,hH,hc⟩:=RowsU.headsF hF
 have hvl:=hH.now.1
 obtain ⟨A2,c2,hv,hS,hU⟩:=hH.now.2 s hs
 obtain ⟨ad2,rfl,hcp⟩:=SliceR.int_at (k:=.u64) hS t ht
 obtain ⟨ad,rfl,hcell⟩:=hc s _ hv
 have hm:F (ad2.add t).block:=Foot.cell_mem (p:=ad2.add t) hH (fun W2 h2=>by
  obtain ⟨A9,c9,e9,k2,_⟩:=h2.2 s hs
  rw [hv] at e9
  injection e9 with e9
  injection e9 with e9
  subst e9
  obtain ⟨ad9,e8,h9⟩:=SliceR.int_at (k:=.u64) k2 t ht
  injection e8 with e8
  rw [e8]
  exact ⟨_,h9⟩)
 have hmh:∀ i,i<a.length→F (ad.add i).block:=fun i hi=>Foot.cell_mem (p:=ad.add i) hF (fun W2 h2=>by
  obtain ⟨ad9,A9,c9,e9,k2,_⟩:=RowsU.at_ h2 i hi
  injection e9 with e9
  rw [e9]
  exact ⟨_,k2⟩)
 refine ⟨ad,ad2,c2,rfl,hcell,⟨_,hcp⟩,hU.at_ ht,hB _ hm,fun x h0 h1 ho=>⟨updA (ad2.add t) x vs a,zjA hvl,zAK hvl,ztK hvl ho h0 h1,F,⟨fun k hk=>by rw [World.size_setCell];exact hF.1 k hk,fun W' hW=>?_⟩,hB⟩⟩
 generalize hp:ad2.add t=p at hcp hm hW ⊢
 generalize ha':updA p x vs a=a'
 have hl':a'.length=a.length:=by rw [← ha'];exact zjA hvl
 have hd:=hH.2 (W'.setCell p (.int .u64 a[s][t])) (fun k hk=>zBK hcp (hW k hk))
 have hcx:W'.cell? p=some (.int .u64 x):=by
  have h1:(w.setCell p (.int .u64 x)).cell? p=some (.int .u64 x):=World.cell?_setCell_same _ _ _ hcp
  unfold World.cell? at h1 ⊢
  rw [hW _ hm]
  exact h1
 have hoth:∀ q v,(W'.setCell p (.int .u64 a[s][t])).cell? q=some v→q≠p→W'.cell? q=some v:=fun q v h9 hne=>by
  rwa [World.cell?_setCell_other _ _ _ _ (Ne.symm hne)] at h9
 have hd':HdR a' vs W':=by
  refine ⟨by rw [hl'];exact hvl,fun i hi=>?_⟩
  have hi2:i<a.length:=by omega
  obtain ⟨A',c',k1,k2,k3⟩:=hd.2 i hi2
  have e:a'[i]=updR p x (.slice A' a[i].length c') a[i]:=by
   subst ha'
   rw [zdD i (by omega) hi2 hi]
   rw [List.getElem?_eq_getElem (by omega)] at k1
   injection k1 with k1
   rw [k1]
  have el:a'[i].length=a[i].length:=by rw [e,zAC]
  refine ⟨A',c',by rw [el];exact k1,?_,?_⟩
  ·obtain ⟨A9,c9,e9,hl,hvv,hAn,hcs⟩:=k2
   injection e9 with e9 _ e8
   subst e9
   subst e8
   refine ⟨A',c',rfl,by rw [el];exact hl,by simp [u64s],hAn,fun j u hu=>?_⟩
   have hj:j<a[i].length:=by have:=(List.getElem?_eq_some_iff.1 hu).1;simp [u64s] at this;omega
   obtain ⟨ad',e7,hj2⟩:=hcs j (.int .u64 a[i][j]) (by simp [u64s,hj])
   subst e7
   refine ⟨ad',rfl,?_⟩
   have hu2:u=.int .u64 (if ad'.add j=p then x else a[i][j]):=by
    simp only [u64s,e,updR] at hu
    rw [List.getElem?_map,List.getElem?_eq_getElem (by simpa using hj)] at hu
    simp only [Option.map_some,List.getElem_mapIdx,Option.some.injEq] at hu
    exact hu.symm
   rw [hu2]
   by_cases hjp:ad'.add j=p
   ·rw [if_pos hjp,hjp];exact hcx
   ·rw [if_neg hjp];exact hoth _ _ hj2 hjp
  ·rw [el]
   intro hn ad' e7
   obtain ⟨h8,h9⟩:=k3 hn ad' e7
   exact ⟨by rwa [World.size_setCell] at h8,fun o=>by have:=h9 o;rwa [World.frozen?_setCell] at this⟩
 refine ⟨some ad,c,rfl,fun i hi=>?_⟩
 obtain ⟨A',c',k1,k2,k3⟩:=hd'.2 i hi
 obtain ⟨ad9,e9,hcell9⟩:=hc i _ k1
 injection e9 with e9
 subst e9
 refine ⟨ad,A',c',rfl,?_,k2,k3⟩
 have hne:p≠ad.add i:=fun e=>by rw [e,hcell9] at hcp;cases hcp
 have h1:(w.setCell p (.int .u64 x)).cell? (ad.add i)=some (.slice A' a'[i].length c'):=by
  rw [World.cell?_setCell_other _ _ _ _ hne];exact hcell9
 unfold World.cell? at h1 ⊢
 rw [hW _ (hmh i (by omega))]
 exact h1
end Go.Proofs.YtfkcpaahdlkcdaaGreat

import Derived.Test.YtfkcpaahdlkcdaaGreatRRecvReads22
set_option linter.unusedSimpArgs false
set_option linter.unusedVariables false
set_option maxRecDepth 100000
set_option maxHeartbeats 16000000
namespace Go.Proofs.YtfkcpaahdlkcdaaGreat
open Go.RowKit
theorem zwK (x:Int) (l:List Int) (ad:Addr) (n c:Nat) (deep:Nat) (v w:World) (hv:Grow v w) (h:SliceR 1 (.slice (some ad) n c) n (u8s (x :: l)) v) (hn:n=l.length+1) (hl:l.length≤1000000) (hx:0≤x∧x≤255) (hu:okU l) (hd:deep≠0) (hc1:¬ (c=1)) (d:Nat) (hde:(deep:Int)-1=d) (hdl:deep≤1000) (IH:Hid (TreeAt d)) (q:Nat) (hqq:(q:Int)=x/8%5) (hm:x%8=7) (m:Nat) (hmm:m=0) :
    Calls Tryz.prog 56 #[(.slice (some ad) n c),.int .i64 deep] w (TreePost deep (l.length+1) l.length v w):=by
 have HV:=LH hv
 have HD0:=LH hd
 have HT:=LH (h.tail2 hn hc1)
 have hcell0:v.cell? ad=some (.int .u8 x):=by
  obtain ⟨A9,c9,e9,_,_,_,hq⟩:=h
  injection e9 with e9 _ _
  obtain ⟨a9,e8,hc⟩:=hq 0 (.int .u8 x) rfl
  rw [← e9] at e8
  injection e8 with e8
  subst e8
  rw [Addr.add_zero'] at hc
  exact hc
 have hcell:=hv.cell hcell0 (fun h=>h)
 clear hcell0 hv
 have hc:n≤c:=by
  obtain ⟨_,_,e,h2,_⟩:=h
  injection e with _ e2 e3
  omega
 have hq:(((n:Nat):Int)==0)=false:=beq_eq_false_iff_ne.2 (by omega)
 have hn1:(1:Int)≤n:=by omega
 have hn0:(0:Int)<n:=by omega
 have HN2:=LH hn
 have HLN:Hid (n-1=l.length):=LH (by omega)
 have hdq:(((deep:Nat):Int)==0)=false:=beq_eq_false_iff_ne.2 (by omega)
 have hmb:(x%8==0)=false:=beq_eq_false_iff_ne.2 (by omega)
 have hm1:(x%8==1)=false:=beq_eq_false_iff_ne.2 (by omega)
 have hm2:(x%8==2)=false:=beq_eq_false_iff_ne.2 (by omega)
 have hm3:(x%8==3)=false:=beq_eq_false_iff_ne.2 (by omega)
 have hm6:6<x%8:=by omega
 have HMM:=LH hmm
 have HQQ:=LH hqq
 have hm9:m≤20:=by omega
 have hq9:q≤4:=by omega
 have HU:Hid (okU l∧l.length≤1000000):=LH ⟨hu,by omega⟩
 have HDE:=LH (And.intro hde hdl)
 have hga:=(Keep.refl NoB w).alloc (.cells qA 114)
 have hgb:=hga.alloc (.cells qA 114)
 have hcell2:=hga.cell hcell (fun h=>h)
 have HX:Hid (0≤x∧x≤255):=LH hx
 obtain ⟨hx1,hx2⟩:=hx
 have HN9:=LH hn
 clear h hm hmm hqq hd hn hcell hga hgb hu hde hdl
 go_enter Tryz.func56,Tryz.ntmps56
 go_wp2_with fail
 have hy1:0≤x/8%5:=by omega
 have hy2:x/8%5≤4:=by omega
 have hz1:0≤x/64:=by omega
 have hz2:x/64≤3:=by omega
 go_loopw [11] (fun v wr=>∃ k:Nat,k≤m∧v=.int .i64 k∧∃ A4 c4,wr.heap[w.heap.size]? = some (.cells qA 114 (0,0))∧wr.heap[w.heap.size+1]? = some (.cells #[qQ,.int .i64 6,.slice A4 k c4,qI,qI] 114 (0,0))∧Hid (Grow w wr∧w.heap.size+2≤wr.heap.size∧wr.ownsRow (w.heap.size+2) 22 1 (.slice A4 k c4) k (u64s (wdsK x k)))) (fun v _=>m-(intOf v).toNat)
 case atStart=>exact ⟨0,by omega,rfl,none,0,(zQ w _ _).1,(zQ w _ _).2.1,((Keep.refl NoB w).alloc _).alloc _,Nat.le_of_eq (zQ w _ _).2.2.symm,World.ownsRow_nil _ (w.heap.size+2) 22 1⟩
 case round =>
  obtain ⟨k,hk,rfl,A4,c4,hb4,hb7,HS⟩:=hrel
  have hwb:IntKind.i64.wrap (x/8%5)=x/8%5:=IntWalk.i64_in _ (by omega)
  have hwc:IntKind.i64.wrap (x/64)=x/64:=IntWalk.i64_in _ (by omega)
  have hd0:wr.cell? ⟨w.heap.size+1,0,none⟩=_:=World.news_of_block hb7 0 _ rfl
  have hd1:wr.cell? ⟨w.heap.size+1,1,none⟩=_:=World.news_of_block hb7 1 _ rfl
  have hd2:wr.cell? ⟨w.heap.size+1,2,none⟩=_:=World.news_of_block hb7 2 _ rfl
  have hd3:wr.cell? ⟨w.heap.size+1,3,none⟩=_:=World.news_of_block hb7 3 _ rfl
  have hd4:wr.cell? ⟨w.heap.size+1,4,none⟩=_:=World.news_of_block hb7 4 _ rfl
  obtain rfl:m=0:=HMM.out
  obtain rfl:k=0:=by omega
  rcases Decidable.em ((0:Int)<x/64) with hlt2 | hlt2
  ·have HK0:Hid (TK d l.length v w 2 6 (wdsK x 0) (.slice A4 0 c4) 0 (.slice none 0 0) [] l (some ⟨ad.block,ad.off+1,none⟩) (c-1) wr):=LH (TK.begin hb4 hb7 HS.out.1 (by rw [zR];exact HS.out.2.2) (by have:=HT.out;rw [HLN.out] at this;exact this) (Nat.le_refl _) HU.out.1)
   clear hb4 HS
   go_wp2_with fail
   clear hd0 hd1 hd2 hd3 hd4 hb7
   go_loopw [0,12,13,14] (fun v0 v12 v13 v14 wr=>∃ (j:Nat) (lj:List Int) (A0:Option Addr) (c0:Nat) (A5:Option Addr) (c5:Nat) (rows:List (Tr×Value×Value×Value)),j≤q∧v12=.int .i64 j∧v0=.slice A0 lj.length c0∧Hid (TK d l.length v w 2 6 (wdsK x 0) (.slice A4 0 c4) j (.slice A5 j c5) rows lj A0 c0 wr)) (fun _ v12 _ _ _=>q-(intOf v12).toNat)
   case atStart=>exact ⟨0,l,(some ⟨ad.block,ad.off+1,none⟩),(c-1),none,0,[],by omega,rfl,(by rw [HLN.out]),HK0⟩
   case round =>
    clear HK0
    obtain ⟨j,lj,A0,c0,A5,c5,rows,hj,rfl,rfl,HK⟩:=hrel
    obtain ⟨n0,n1,n2,n3,n4,nf⟩:=zA HK.out.nod
    by_cases hjt:j<q
    ·have hjt':(j:Int)<x/8%5:=by have:=HQQ.out;omega
     have hwj:IntKind.i64.wrap ((j:Int)+1)=(j:Int)+1:=IntWalk.i64_in _ (by omega)
     have hwd:IntKind.i64.wrap ((deep:Int)-1)=d:=by rw [HDE.out.1];exact IntWalk.i64_in _ (by have:=HDE.out.1;have:=HDE.out.2;omega)
     go_wp2_with fail
     refine (IH.out lj A0 c0 v wr (HV.out.grow HK.out.keep) HK.out.left (Nat.le_trans HK.out.le HU.out.2) HK.out.okl).mono ?_
     rintro e w4 ⟨t,B1,B2,B3,d1,d2,d3,l2,A2,c2,rfl,hg4,hf4,htn,htb,hl4,hle4,hok4,hsm4⟩
     have HM:=LH (HK.out.called hg4 hf4)
     have HL:=LH (And.intro hl4 (And.intro (Nat.le_trans hle4 HK.out.le) hok4))
     have HT2:=LH (And.intro htn htb)
     have HSM4:=LH hsm4
     clear hg4 hf4 htn htb hl4 hle4 hok4 hsm4 n0 n1 n2 n3 n4 nf
     have hga:=(Keep.refl NoB w4).alloc (.cells #[t.kind,t.size,.slice B1 t.ws.length d1,.slice B2 t.bs.length d2,.slice B3 t.kids.length d3] 114)
     have hna:=heap_alloc_new w4 (.cells #[t.kind,t.size,.slice B1 t.ws.length d1,.slice B2 t.bs.length d2,.slice B3 t.kids.length d3] 114)
     replace HM:=LH (HM.out.grow hga)
     have HNA:=LH hna
     clear hga hna
     obtain ⟨t0,t1,t2,t3,t4,tf⟩:=zA HNA.out
     obtain ⟨n0,n1,n2,n3,n4,nf⟩:=zA HM.out.nod
     have HSRC:Hid (((w4.alloc (.cells #[t.kind,t.size,.slice B1 t.ws.length d1,.slice B2 t.bs.length d2,.slice B3 t.kids.length d3] 114)).alloc (.cells #[t.kind,t.size,.slice B1 t.ws.length d1,.slice B2 t.bs.length d2,.slice B3 t.kids.length d3] 114)).heap[w4.heap.size+1]? = some (.cells #[t.kind,t.size,.slice B1 t.ws.length d1,.slice B2 t.bs.length d2,.slice B3 t.kids.length d3] 114 (0,0))):=LH (zQ w4 _ _).2.1
     have HSZ:Hid (w.heap.size+2≤((w4.alloc (.cells #[t.kind,t.size,.slice B1 t.ws.length d1,.slice B2 t.bs.length d2,.slice B3 t.kids.length d3] 114)).alloc (.cells #[t.kind,t.size,.slice B1 t.ws.length d1,.slice B2 t.bs.length d2,.slice B3 t.kids.length d3] 114)).heap.size):=LH (by have:=(gE HM.out.nod).1;simp at this ⊢;omega)
     go_wp2_with (at_builtin;refine zL _ rfl _ _ 112 112 rfl (w.heap.size+2) 114 (.agg qA) 5 88 zv zZA rfl (.slice A5 j c5) j (kcs rows) rfl (.slice (some ⟨w4.heap.size+1,0,none⟩) 1 1) 1 [.int .i64 t.kind,.int .i64 t.size,.slice B1 t.ws.length d1,.slice B2 t.bs.length d2,.slice B3 t.kids.length d3] rfl ?_ (by exact zF HM.out.own ((Keep.refl NoB _).alloc _) (fun _ _ h=>h)) (by exact Src.ofSlice _ zv ⟨w4.heap.size+1,0,none⟩ 1 1 _ rfl (World.news_of_block (cs:=#[t.kind,t.size,.slice B1 t.ws.length d1,.slice B2 t.bs.length d2,.slice B3 t.kids.length d3]) (t:=114) (fr:=(0,0)) HSRC.out) (by simp [Value.oneCell'])) (by simp only [maxLen];omega) (by omega) (by exact HSZ.out);intro v5 w5 hap;refine Hid.out ?_)
     refine LH ?_
     replace HM:=LH (HM.out.grow ((Keep.refl NoB _).alloc (.cells #[t.kind,t.size,.slice B1 t.ws.length d1,.slice B2 t.bs.length d2,.slice B3 t.kids.length d3] 114)))
     have hfin:=HM.out.appended (kid:=(t,.slice B1 t.ws.length d1,.slice B2 t.bs.length d2,.slice B3 t.kids.length d3)) hap HK.out.len (fun x hx=>by
      rcases List.mem_append.1 hx with e | e
      ·exact HK.out.ok x e
      ·rw [List.mem_singleton.1 e];exact HT2.out) HL.out.1 HL.out.2.1 HL.out.2.2 (fun m9 h9=>⟨fun x hx=>by
      rcases List.mem_append.1 hx with e | e
      ·exact (HK.out.sm m9 h9).1 x e
      ·rw [List.mem_singleton.1 e];exact (HSM4.out m9 h9).1,by
      have e1:=(HK.out.sm m9 h9).2
      have e2:=(HSM4.out m9 h9).2
      rw [List.map_append,List.sum_append]
      simp only [List.map_cons,List.map_nil,List.sum_cons,List.sum_nil]
      omega⟩)
     obtain ⟨A6,c6,rfl,_⟩:=zK hap.own
     have HF:=LH hfin.1
     clear n0 n1 n2 n3 n4 nf t0 t1 t2 t3 t4 tf hap
     obtain ⟨n0,n1,n2,n3,n4,nf⟩:=zA hfin.2
     clear hfin
     go_wp2
     go_roundw
     case rel=>exact ⟨j+1,l2,A2,c2,A6,c6,_,by omega,by go_num,rfl,HF⟩
     case measure=>simp [intOf];omega
    ·obtain rfl:j=q:=by omega
     have hjt':¬ ((j:Int)<x/8%5):=by have:=HQQ.out;omega
     obtain ⟨hf0,hf1,hf2,hf3,hf4,hfr⟩:=zA HK.out.res
     obtain ⟨hw5,-⟩:=zY (.int .i64 2) (.int .i64 6) (.slice A4 0 c4) (.slice none 0 0) (.slice A5 j c5) HK.out.keep (Nat.le_refl _) HK.out.res
     have HW5:=LH hw5
     have HP:Hid (TreePost deep (l.length+1) l.length v w (.returned (.tuple #[.agg #[qQ,.int .i64 6,.slice A4 0 c4,qI,.slice A5 j c5],.slice A0 lj.length c0])) (((((wr.setCell ⟨w.heap.size,0,none⟩ (.int .i64 2)).setCell ⟨w.heap.size,1,none⟩ (.int .i64 6)).setCell ⟨w.heap.size,2,none⟩ (.slice A4 0 c4)).setCell ⟨w.heap.size,3,none⟩ (.slice none 0 0)).setCell ⟨w.heap.size,4,none⟩ (.slice A5 j c5))) :=
      LH (HK.out.post (by have:=HDE.out.1;omega) (by rw [zR];simp [ownB];omega) (by rw [zR];simp [needN];omega) (zR x 0) (zb _ _ _ _ _) (by rw [zR];omega) (zYB x 0) (by omega))
     clear hw5
     go_wp2
     revert HW5 HP
     generalize (((((wr.setCell ⟨w.heap.size,0,none⟩ (.int .i64 2)).setCell ⟨w.heap.size,1,none⟩ (.int .i64 6)).setCell ⟨w.heap.size,2,none⟩ (.slice A4 0 c4)).setCell ⟨w.heap.size,3,none⟩ (.slice none 0 0)).setCell ⟨w.heap.size,4,none⟩ (.slice A5 j c5))=w5
     intro HW5 HP
     obtain ⟨hf0,hf1,hf2,hf3,hf4,hfr⟩:=zA HW5.out
     refine bodyPost_ret (v:=.tuple #[.agg #[qQ,.int .i64 6,.slice A4 0 c4,qI,.slice A5 j c5],.slice A0 lj.length c0]) ?_ rfl HP.out
     rw [results_cell_tmp rfl];go_simp
  ·have HK0:Hid (TK d l.length v w 2 6 (wdsK x 0) (.slice A4 0 c4) 0 (.slice none 0 0) [] l (some ⟨ad.block,ad.off+1,none⟩) (c-1) wr):=LH (TK.begin hb4 hb7 HS.out.1 (by rw [zR];exact HS.out.2.2) (by have:=HT.out;rw [HLN.out] at this;exact this) (Nat.le_refl _) HU.out.1)
   clear hb4 HS
   go_wp2_with fail
   clear hd0 hd1 hd2 hd3 hd4 hb7
   go_loopw [0,12,13,14] (fun v0 v12 v13 v14 wr=>∃ (j:Nat) (lj:List Int) (A0:Option Addr) (c0:Nat) (A5:Option Addr) (c5:Nat) (rows:List (Tr×Value×Value×Value)),j≤q∧v12=.int .i64 j∧v0=.slice A0 lj.length c0∧Hid (TK d l.length v w 2 6 (wdsK x 0) (.slice A4 0 c4) j (.slice A5 j c5) rows lj A0 c0 wr)) (fun _ v12 _ _ _=>q-(intOf v12).toNat)
   case atStart=>exact ⟨0,l,(some ⟨ad.block,ad.off+1,none⟩),(c-1),none,0,[],by omega,rfl,(by rw [HLN.out]),HK0⟩
   case round =>
    clear HK0
    obtain ⟨j,lj,A0,c0,A5,c5,rows,hj,rfl,rfl,HK⟩:=hrel
    obtain ⟨n0,n1,n2,n3,n4,nf⟩:=zA HK.out.nod
    by_cases hjt:j<q
    ·have hjt':(j:Int)<x/8%5:=by have:=HQQ.out;omega
     have hwj:IntKind.i64.wrap ((j:Int)+1)=(j:Int)+1:=IntWalk.i64_in _ (by omega)
     have hwd:IntKind.i64.wrap ((deep:Int)-1)=d:=by rw [HDE.out.1];exact IntWalk.i64_in _ (by have:=HDE.out.1;have:=HDE.out.2;omega)
     go_wp2_with fail
     refine (IH.out lj A0 c0 v wr (HV.out.grow HK.out.keep) HK.out.left (Nat.le_trans HK.out.le HU.out.2) HK.out.okl).mono ?_
     rintro e w4 ⟨t,B1,B2,B3,d1,d2,d3,l2,A2,c2,rfl,hg4,hf4,htn,htb,hl4,hle4,hok4,hsm4⟩
     have HM:=LH (HK.out.called hg4 hf4)
     have HL:=LH (And.intro hl4 (And.intro (Nat.le_trans hle4 HK.out.le) hok4))
     have HT2:=LH (And.intro htn htb)
     have HSM4:=LH hsm4
     clear hg4 hf4 htn htb hl4 hle4 hok4 hsm4 n0 n1 n2 n3 n4 nf
     have hga:=(Keep.refl NoB w4).alloc (.cells #[t.kind,t.size,.slice B1 t.ws.length d1,.slice B2 t.bs.length d2,.slice B3 t.kids.length d3] 114)
     have hna:=heap_alloc_new w4 (.cells #[t.kind,t.size,.slice B1 t.ws.length d1,.slice B2 t.bs.length d2,.slice B3 t.kids.length d3] 114)
     replace HM:=LH (HM.out.grow hga)
     have HNA:=LH hna
     clear hga hna
     obtain ⟨t0,t1,t2,t3,t4,tf⟩:=zA HNA.out
     obtain ⟨n0,n1,n2,n3,n4,nf⟩:=zA HM.out.nod
     have HSRC:Hid (((w4.alloc (.cells #[t.kind,t.size,.slice B1 t.ws.length d1,.slice B2 t.bs.length d2,.slice B3 t.kids.length d3] 114)).alloc (.cells #[t.kind,t.size,.slice B1 t.ws.length d1,.slice B2 t.bs.length d2,.slice B3 t.kids.length d3] 114)).heap[w4.heap.size+1]? = some (.cells #[t.kind,t.size,.slice B1 t.ws.length d1,.slice B2 t.bs.length d2,.slice B3 t.kids.length d3] 114 (0,0))):=LH (zQ w4 _ _).2.1
     have HSZ:Hid (w.heap.size+2≤((w4.alloc (.cells #[t.kind,t.size,.slice B1 t.ws.length d1,.slice B2 t.bs.length d2,.slice B3 t.kids.length d3] 114)).alloc (.cells #[t.kind,t.size,.slice B1 t.ws.length d1,.slice B2 t.bs.length d2,.slice B3 t.kids.length d3] 114)).heap.size):=LH (by have:=(gE HM.out.nod).1;simp at this ⊢;omega)
     go_wp2_with (at_builtin;refine zL _ rfl _ _ 112 112 rfl (w.heap.size+2) 114 (.agg qA) 5 88 zv zZA rfl (.slice A5 j c5) j (kcs rows) rfl (.slice (some ⟨w4.heap.size+1,0,none⟩) 1 1) 1 [.int .i64 t.kind,.int .i64 t.size,.slice B1 t.ws.length d1,.slice B2 t.bs.length d2,.slice B3 t.kids.length d3] rfl ?_ (by exact zF HM.out.own ((Keep.refl NoB _).alloc _) (fun _ _ h=>h)) (by exact Src.ofSlice _ zv ⟨w4.heap.size+1,0,none⟩ 1 1 _ rfl (World.news_of_block (cs:=#[t.kind,t.size,.slice B1 t.ws.length d1,.slice B2 t.bs.length d2,.slice B3 t.kids.length d3]) (t:=114) (fr:=(0,0)) HSRC.out) (by simp [Value.oneCell'])) (by simp only [maxLen];omega) (by omega) (by exact HSZ.out);intro v5 w5 hap;refine Hid.out ?_)
     refine LH ?_
     replace HM:=LH (HM.out.grow ((Keep.refl NoB _).alloc (.cells #[t.kind,t.size,.slice B1 t.ws.length d1,.slice B2 t.bs.length d2,.slice B3 t.kids.length d3] 114)))
     have hfin:=HM.out.appended (kid:=(t,.slice B1 t.ws.length d1,.slice B2 t.bs.length d2,.slice B3 t.kids.length d3)) hap HK.out.len (fun x hx=>by
      rcases List.mem_append.1 hx with e | e
      ·exact HK.out.ok x e
      ·rw [List.mem_singleton.1 e];exact HT2.out) HL.out.1 HL.out.2.1 HL.out.2.2 (fun m9 h9=>⟨fun x hx=>by
      rcases List.mem_append.1 hx with e | e
      ·exact (HK.out.sm m9 h9).1 x e
      ·rw [List.mem_singleton.1 e];exact (HSM4.out m9 h9).1,by
      have e1:=(HK.out.sm m9 h9).2
      have e2:=(HSM4.out m9 h9).2
      rw [List.map_append,List.sum_append]
      simp only [List.map_cons,List.map_nil,List.sum_cons,List.sum_nil]
      omega⟩)
     obtain ⟨A6,c6,rfl,_⟩:=zK hap.own
     have HF:=LH hfin.1
     clear n0 n1 n2 n3 n4 nf t0 t1 t2 t3 t4 tf hap
     obtain ⟨n0,n1,n2,n3,n4,nf⟩:=zA hfin.2
     clear hfin
     go_wp2
     go_roundw
     case rel=>exact ⟨j+1,l2,A2,c2,A6,c6,_,by omega,by go_num,rfl,HF⟩
     case measure=>simp [intOf];omega
    ·obtain rfl:j=q:=by omega
     have hjt':¬ ((j:Int)<x/8%5):=by have:=HQQ.out;omega
     obtain ⟨hf0,hf1,hf2,hf3,hf4,hfr⟩:=zA HK.out.res
     obtain ⟨hw5,-⟩:=zY (.int .i64 2) (.int .i64 6) (.slice A4 0 c4) (.slice none 0 0) (.slice A5 j c5) HK.out.keep (Nat.le_refl _) HK.out.res
     have HW5:=LH hw5
     have HP:Hid (TreePost deep (l.length+1) l.length v w (.returned (.tuple #[.agg #[qQ,.int .i64 6,.slice A4 0 c4,qI,.slice A5 j c5],.slice A0 lj.length c0])) (((((wr.setCell ⟨w.heap.size,0,none⟩ (.int .i64 2)).setCell ⟨w.heap.size,1,none⟩ (.int .i64 6)).setCell ⟨w.heap.size,2,none⟩ (.slice A4 0 c4)).setCell ⟨w.heap.size,3,none⟩ (.slice none 0 0)).setCell ⟨w.heap.size,4,none⟩ (.slice A5 j c5))) :=
      LH (HK.out.post (by have:=HDE.out.1;omega) (by rw [zR];simp [ownB];omega) (by rw [zR];simp [needN];omega) (zR x 0) (zb _ _ _ _ _) (by rw [zR];omega) (zYB x 0) (by omega))
     clear hw5
     go_wp2
     revert HW5 HP
     generalize (((((wr.setCell ⟨w.heap.size,0,none⟩ (.int .i64 2)).setCell ⟨w.heap.size,1,none⟩ (.int .i64 6)).setCell ⟨w.heap.size,2,none⟩ (.slice A4 0 c4)).setCell ⟨w.heap.size,3,none⟩ (.slice none 0 0)).setCell ⟨w.heap.size,4,none⟩ (.slice A5 j c5))=w5
     intro HW5 HP
     obtain ⟨hf0,hf1,hf2,hf3,hf4,hfr⟩:=zA HW5.out
     refine bodyPost_ret (v:=.tuple #[.agg #[qQ,.int .i64 6,.slice A4 0 c4,qI,.slice A5 j c5],.slice A0 lj.length c0]) ?_ rfl HP.out
     rw [results_cell_tmp rfl];go_simp
theorem zxK (x:Int) (ad:Addr) (deep:Nat) (v w:World) (hv:Grow v w) (h:SliceR 1 (.slice (some ad) 1 1) 1 (u8s [x]) v) (hx:0≤x∧x≤255) (hd:deep≠0) (d:Nat) (hde:(deep:Int)-1=d) (hdl:deep≤1000) (IH:Hid (TreeAt d)) (q:Nat) (hqq:(q:Int)=x/8%5) (hm:x%8=7) (m:Nat) (hmm:m=0) :
    Calls Tryz.prog 56 #[(.slice (some ad) 1 1),.int .i64 deep] w (TreePost deep (([]:List Int).length+1) ([]:List Int).length v w):=by
 have HV:=LH hv
 have HD0:=LH hd
 have HT:Hid (SliceR 1 (.slice (some ad) 0 0) 0 (u8s []) v):=LH ⟨some ad,0,rfl,Nat.le_refl _,by simp [u8s],fun _=>rfl,fun j u hu=>by simp [u8s] at hu⟩
 have hcell0:v.cell? ad=some (.int .u8 x):=by
  obtain ⟨A9,c9,e9,_,_,_,hq⟩:=h
  injection e9 with e9 _ _
  obtain ⟨a9,e8,hc⟩:=hq 0 (.int .u8 x) rfl
  rw [← e9] at e8
  injection e8 with e8
  subst e8
  rw [Addr.add_zero'] at hc
  exact hc
 have hcell:=hv.cell hcell0 (fun h=>h)
 clear hcell0 hv
 have hu:okU []:=fun y hy=>by cases hy
 have hn:0=([]:List Int).length:=rfl
 have hdq:(((deep:Nat):Int)==0)=false:=beq_eq_false_iff_ne.2 (by omega)
 have hmb:(x%8==0)=false:=beq_eq_false_iff_ne.2 (by omega)
 have hm1:(x%8==1)=false:=beq_eq_false_iff_ne.2 (by omega)
 have hm2:(x%8==2)=false:=beq_eq_false_iff_ne.2 (by omega)
 have hm3:(x%8==3)=false:=beq_eq_false_iff_ne.2 (by omega)
 have hm6:6<x%8:=by omega
 have HMM:=LH hmm
 have HQQ:=LH hqq
 have hm9:m≤20:=by omega
 have hq9:q≤4:=by omega
 have HU:Hid (okU ([]:List Int)∧([]:List Int).length≤1000000):=LH ⟨hu,by simp⟩
 have HDE:=LH (And.intro hde hdl)
 have hga:=(Keep.refl NoB w).alloc (.cells qA 114)
 have hgb:=hga.alloc (.cells qA 114)
 have hcell2:=hga.cell hcell (fun h=>h)
 have HX:Hid (0≤x∧x≤255):=LH hx
 obtain ⟨hx1,hx2⟩:=hx
 have HN9:=LH hn
 clear h hm hmm hqq hd hn hcell hga hgb hu hde hdl
 go_enter Tryz.func56,Tryz.ntmps56
 go_wp2_with fail
 have hy1:0≤x/8%5:=by omega
 have hy2:x/8%5≤4:=by omega
 have hz1:0≤x/64:=by omega
 have hz2:x/64≤3:=by omega
 go_loopw [11] (fun v wr=>∃ k:Nat,k≤m∧v=.int .i64 k∧∃ A4 c4,wr.heap[w.heap.size]? = some (.cells qA 114 (0,0))∧wr.heap[w.heap.size+1]? = some (.cells #[qQ,.int .i64 6,.slice A4 k c4,qI,qI] 114 (0,0))∧Hid (Grow w wr∧w.heap.size+2≤wr.heap.size∧wr.ownsRow (w.heap.size+2) 22 1 (.slice A4 k c4) k (u64s (wdsK x k)))) (fun v _=>m-(intOf v).toNat)
 case atStart=>exact ⟨0,by omega,rfl,none,0,(zQ w _ _).1,(zQ w _ _).2.1,((Keep.refl NoB w).alloc _).alloc _,Nat.le_of_eq (zQ w _ _).2.2.symm,World.ownsRow_nil _ (w.heap.size+2) 22 1⟩
 case round =>
  obtain ⟨k,hk,rfl,A4,c4,hb4,hb7,HS⟩:=hrel
  have hwb:IntKind.i64.wrap (x/8%5)=x/8%5:=IntWalk.i64_in _ (by omega)
  have hwc:IntKind.i64.wrap (x/64)=x/64:=IntWalk.i64_in _ (by omega)
  have hd0:wr.cell? ⟨w.heap.size+1,0,none⟩=_:=World.news_of_block hb7 0 _ rfl
  have hd1:wr.cell? ⟨w.heap.size+1,1,none⟩=_:=World.news_of_block hb7 1 _ rfl
  have hd2:wr.cell? ⟨w.heap.size+1,2,none⟩=_:=World.news_of_block hb7 2 _ rfl
  have hd3:wr.cell? ⟨w.heap.size+1,3,none⟩=_:=World.news_of_block hb7 3 _ rfl
  have hd4:wr.cell? ⟨w.heap.size+1,4,none⟩=_:=World.news_of_block hb7 4 _ rfl
  obtain rfl:m=0:=HMM.out
  obtain rfl:k=0:=by omega
  rcases Decidable.em ((0:Int)<x/64) with hlt2 | hlt2
  ·have HK0:Hid (TK d ([]:List Int).length v w 2 6 (wdsK x 0) (.slice A4 0 c4) 0 (.slice none 0 0) [] ([]:List Int) (some ad) 0 wr):=LH (TK.begin hb4 hb7 HS.out.1 (by rw [zR];exact HS.out.2.2) HT.out (Nat.le_refl _) HU.out.1)
   clear hb4 HS
   go_wp2_with fail
   clear hd0 hd1 hd2 hd3 hd4 hb7
   go_loopw [0,12,13,14] (fun v0 v12 v13 v14 wr=>∃ (j:Nat) (lj:List Int) (A0:Option Addr) (c0:Nat) (A5:Option Addr) (c5:Nat) (rows:List (Tr×Value×Value×Value)),j≤q∧v12=.int .i64 j∧v0=.slice A0 lj.length c0∧Hid (TK d ([]:List Int).length v w 2 6 (wdsK x 0) (.slice A4 0 c4) j (.slice A5 j c5) rows lj A0 c0 wr)) (fun _ v12 _ _ _=>q-(intOf v12).toNat)
   case atStart=>exact ⟨0,([]:List Int),(some ad),0,none,0,[],by omega,rfl,rfl,HK0⟩
   case round =>
    clear HK0
    obtain ⟨j,lj,A0,c0,A5,c5,rows,hj,rfl,rfl,HK⟩:=hrel
    obtain ⟨n0,n1,n2,n3,n4,nf⟩:=zA HK.out.nod
    by_cases hjt:j<q
    ·have hjt':(j:Int)<x/8%5:=by have:=HQQ.out;omega
     have hwj:IntKind.i64.wrap ((j:Int)+1)=(j:Int)+1:=IntWalk.i64_in _ (by omega)
     have hwd:IntKind.i64.wrap ((deep:Int)-1)=d:=by rw [HDE.out.1];exact IntWalk.i64_in _ (by have:=HDE.out.1;have:=HDE.out.2;omega)
     go_wp2_with fail
     refine (IH.out lj A0 c0 v wr (HV.out.grow HK.out.keep) HK.out.left (Nat.le_trans HK.out.le HU.out.2) HK.out.okl).mono ?_
     rintro e w4 ⟨t,B1,B2,B3,d1,d2,d3,l2,A2,c2,rfl,hg4,hf4,htn,htb,hl4,hle4,hok4,hsm4⟩
     have HM:=LH (HK.out.called hg4 hf4)
     have HL:=LH (And.intro hl4 (And.intro (Nat.le_trans hle4 HK.out.le) hok4))
     have HT2:=LH (And.intro htn htb)
     have HSM4:=LH hsm4
     clear hg4 hf4 htn htb hl4 hle4 hok4 hsm4 n0 n1 n2 n3 n4 nf
     have hga:=(Keep.refl NoB w4).alloc (.cells #[t.kind,t.size,.slice B1 t.ws.length d1,.slice B2 t.bs.length d2,.slice B3 t.kids.length d3] 114)
     have hna:=heap_alloc_new w4 (.cells #[t.kind,t.size,.slice B1 t.ws.length d1,.slice B2 t.bs.length d2,.slice B3 t.kids.length d3] 114)
     replace HM:=LH (HM.out.grow hga)
     have HNA:=LH hna
     clear hga hna
     obtain ⟨t0,t1,t2,t3,t4,tf⟩:=zA HNA.out
     obtain ⟨n0,n1,n2,n3,n4,nf⟩:=zA HM.out.nod
     have HSRC:Hid (((w4.alloc (.cells #[t.kind,t.size,.slice B1 t.ws.length d1,.slice B2 t.bs.length d2,.slice B3 t.kids.length d3] 114)).alloc (.cells #[t.kind,t.size,.slice B1 t.ws.length d1,.slice B2 t.bs.length d2,.slice B3 t.kids.length d3] 114)).heap[w4.heap.size+1]? = some (.cells #[t.kind,t.size,.slice B1 t.ws.length d1,.slice B2 t.bs.length d2,.slice B3 t.kids.length d3] 114 (0,0))):=LH (zQ w4 _ _).2.1
     have HSZ:Hid (w.heap.size+2≤((w4.alloc (.cells #[t.kind,t.size,.slice B1 t.ws.length d1,.slice B2 t.bs.length d2,.slice B3 t.kids.length d3] 114)).alloc (.cells #[t.kind,t.size,.slice B1 t.ws.length d1,.slice B2 t.bs.length d2,.slice B3 t.kids.length d3] 114)).heap.size):=LH (by have:=(gE HM.out.nod).1;simp at this ⊢;omega)
     go_wp2_with (at_builtin;refine zL _ rfl _ _ 112 112 rfl (w.heap.size+2) 114 (.agg qA) 5 88 zv zZA rfl (.slice A5 j c5) j (kcs rows) rfl (.slice (some ⟨w4.heap.size+1,0,none⟩) 1 1) 1 [.int .i64 t.kind,.int .i64 t.size,.slice B1 t.ws.length d1,.slice B2 t.bs.length d2,.slice B3 t.kids.length d3] rfl ?_ (by exact zF HM.out.own ((Keep.refl NoB _).alloc _) (fun _ _ h=>h)) (by exact Src.ofSlice _ zv ⟨w4.heap.size+1,0,none⟩ 1 1 _ rfl (World.news_of_block (cs:=#[t.kind,t.size,.slice B1 t.ws.length d1,.slice B2 t.bs.length d2,.slice B3 t.kids.length d3]) (t:=114) (fr:=(0,0)) HSRC.out) (by simp [Value.oneCell'])) (by simp only [maxLen];omega) (by omega) (by exact HSZ.out);intro v5 w5 hap;refine Hid.out ?_)
     refine LH ?_
     replace HM:=LH (HM.out.grow ((Keep.refl NoB _).alloc (.cells #[t.kind,t.size,.slice B1 t.ws.length d1,.slice B2 t.bs.length d2,.slice B3 t.kids.length d3] 114)))
     have hfin:=HM.out.appended (kid:=(t,.slice B1 t.ws.length d1,.slice B2 t.bs.length d2,.slice B3 t.kids.length d3)) hap HK.out.len (fun x hx=>by
      rcases List.mem_append.1 hx with e | e
      ·exact HK.out.ok x e
      ·rw [List.mem_singleton.1 e];exact HT2.out) HL.out.1 HL.out.2.1 HL.out.2.2 (fun m9 h9=>⟨fun x hx=>by
      rcases List.mem_append.1 hx with e | e
      ·exact (HK.out.sm m9 h9).1 x e
      ·rw [List.mem_singleton.1 e];exact (HSM4.out m9 h9).1,by
      have e1:=(HK.out.sm m9 h9).2
      have e2:=(HSM4.out m9 h9).2
      rw [List.map_append,List.sum_append]
      simp only [List.map_cons,List.map_nil,List.sum_cons,List.sum_nil]
      omega⟩)
     obtain ⟨A6,c6,rfl,_⟩:=zK hap.own
     have HF:=LH hfin.1
     clear n0 n1 n2 n3 n4 nf t0 t1 t2 t3 t4 tf hap
     obtain ⟨n0,n1,n2,n3,n4,nf⟩:=zA hfin.2
     clear hfin
     go_wp2
     go_roundw
     case rel=>exact ⟨j+1,l2,A2,c2,A6,c6,_,by omega,by go_num,rfl,HF⟩
     case measure=>simp [intOf];omega
    ·obtain rfl:j=q:=by omega
     have hjt':¬ ((j:Int)<x/8%5):=by have:=HQQ.out;omega
     obtain ⟨hf0,hf1,hf2,hf3,hf4,hfr⟩:=zA HK.out.res
     obtain ⟨hw5,-⟩:=zY (.int .i64 2) (.int .i64 6) (.slice A4 0 c4) (.slice none 0 0) (.slice A5 j c5) HK.out.keep (Nat.le_refl _) HK.out.res
     have HW5:=LH hw5
     have HP:Hid (TreePost deep (([]:List Int).length+1) ([]:List Int).length v w (.returned (.tuple #[.agg #[qQ,.int .i64 6,.slice A4 0 c4,qI,.slice A5 j c5],.slice A0 lj.length c0])) (((((wr.setCell ⟨w.heap.size,0,none⟩ (.int .i64 2)).setCell ⟨w.heap.size,1,none⟩ (.int .i64 6)).setCell ⟨w.heap.size,2,none⟩ (.slice A4 0 c4)).setCell ⟨w.heap.size,3,none⟩ (.slice none 0 0)).setCell ⟨w.heap.size,4,none⟩ (.slice A5 j c5))) :=
      LH (HK.out.post (by have:=HDE.out.1;omega) (by rw [zR];simp [ownB];omega) (by rw [zR];simp [needN];omega) (zR x 0) (zb _ _ _ _ _) (by rw [zR];omega) (zYB x 0) (by omega))
     clear hw5
     go_wp2
     revert HW5 HP
     generalize (((((wr.setCell ⟨w.heap.size,0,none⟩ (.int .i64 2)).setCell ⟨w.heap.size,1,none⟩ (.int .i64 6)).setCell ⟨w.heap.size,2,none⟩ (.slice A4 0 c4)).setCell ⟨w.heap.size,3,none⟩ (.slice none 0 0)).setCell ⟨w.heap.size,4,none⟩ (.slice A5 j c5))=w5
     intro HW5 HP
     obtain ⟨hf0,hf1,hf2,hf3,hf4,hfr⟩:=zA HW5.out
     refine bodyPost_ret (v:=.tuple #[.agg #[qQ,.int .i64 6,.slice A4 0 c4,qI,.slice A5 j c5],.slice A0 lj.length c0]) ?_ rfl HP.out
     rw [results_cell_tmp rfl];go_simp
  ·have HK0:Hid (TK d ([]:List Int).length v w 2 6 (wdsK x 0) (.slice A4 0 c4) 0 (.slice none 0 0) [] ([]:List Int) (some ad) 0 wr):=LH (TK.begin hb4 hb7 HS.out.1 (by rw [zR];exact HS.out.2.2) HT.out (Nat.le_refl _) HU.out.1)
   clear hb4 HS
   go_wp2_with fail
   clear hd0 hd1 hd2 hd3 hd4 hb7
   go_loopw [0,12,13,14] (fun v0 v12 v13 v14 wr=>∃ (j:Nat) (lj:List Int) (A0:Option Addr) (c0:Nat) (A5:Option Addr) (c5:Nat) (rows:List (Tr×Value×Value×Value)),j≤q∧v12=.int .i64 j∧v0=.slice A0 lj.length c0∧Hid (TK d ([]:List Int).length v w 2 6 (wdsK x 0) (.slice A4 0 c4) j (.slice A5 j c5) rows lj A0 c0 wr)) (fun _ v12 _ _ _=>q-(intOf v12).toNat)
   case atStart=>exact ⟨0,([]:List Int),(some ad),0,none,0,[],by omega,rfl,rfl,HK0⟩
   case round =>
    clear HK0
    obtain ⟨j,lj,A0,c0,A5,c5,rows,hj,rfl,rfl,HK⟩:=hrel
    obtain ⟨n0,n1,n2,n3,n4,nf⟩:=zA HK.out.nod
    by_cases hjt:j<q
    ·have hjt':(j:Int)<x/8%5:=by have:=HQQ.out;omega
     have hwj:IntKind.i64.wrap ((j:Int)+1)=(j:Int)+1:=IntWalk.i64_in _ (by omega)
     have hwd:IntKind.i64.wrap ((deep:Int)-1)=d:=by rw [HDE.out.1];exact IntWalk.i64_in _ (by have:=HDE.out.1;have:=HDE.out.2;omega)
     go_wp2_with fail
     refine (IH.out lj A0 c0 v wr (HV.out.grow HK.out.keep) HK.out.left (Nat.le_trans HK.out.le HU.out.2) HK.out.okl).mono ?_
     rintro e w4 ⟨t,B1,B2,B3,d1,d2,d3,l2,A2,c2,rfl,hg4,hf4,htn,htb,hl4,hle4,hok4,hsm4⟩
     have HM:=LH (HK.out.called hg4 hf4)
     have HL:=LH (And.intro hl4 (And.intro (Nat.le_trans hle4 HK.out.le) hok4))
     have HT2:=LH (And.intro htn htb)
     have HSM4:=LH hsm4
     clear hg4 hf4 htn htb hl4 hle4 hok4 hsm4 n0 n1 n2 n3 n4 nf
     have hga:=(Keep.refl NoB w4).alloc (.cells #[t.kind,t.size,.slice B1 t.ws.length d1,.slice B2 t.bs.length d2,.slice B3 t.kids.length d3] 114)
     have hna:=heap_alloc_new w4 (.cells #[t.kind,t.size,.slice B1 t.ws.length d1,.slice B2 t.bs.length d2,.slice B3 t.kids.length d3] 114)
     replace HM:=LH (HM.out.grow hga)
     have HNA:=LH hna
     clear hga hna
     obtain ⟨t0,t1,t2,t3,t4,tf⟩:=zA HNA.out
     obtain ⟨n0,n1,n2,n3,n4,nf⟩:=zA HM.out.nod
     have HSRC:Hid (((w4.alloc (.cells #[t.kind,t.size,.slice B1 t.ws.length d1,.slice B2 t.bs.length d2,.slice B3 t.kids.length d3] 114)).alloc (.cells #[t.kind,t.size,.slice B1 t.ws.length d1,.slice B2 t.bs.length d2,.slice B3 t.kids.length d3] 114)).heap[w4.heap.size+1]? = some (.cells #[t.kind,t.size,.slice B1 t.ws.length d1,.slice B2 t.bs.length d2,.slice B3 t.kids.length d3] 114 (0,0))):=LH (zQ w4 _ _).2.1
     have HSZ:Hid (w.heap.size+2≤((w4.alloc (.cells #[t.kind,t.size,.slice B1 t.ws.length d1,.slice B2 t.bs.length d2,.slice B3 t.kids.length d3] 114)).alloc (.cells #[t.kind,t.size,.slice B1 t.ws.length d1,.slice B2 t.bs.length d2,.slice B3 t.kids.length d3] 114)).heap.size):=LH (by have:=(gE HM.out.nod).1;simp at this ⊢;omega)
     go_wp2_with (at_builtin;refine zL _ rfl _ _ 112 112 rfl (w.heap.size+2) 114 (.agg qA) 5 88 zv zZA rfl (.slice A5 j c5) j (kcs rows) rfl (.slice (some ⟨w4.heap.size+1,0,none⟩) 1 1) 1 [.int .i64 t.kind,.int .i64 t.size,.slice B1 t.ws.length d1,.slice B2 t.bs.length d2,.slice B3 t.kids.length d3] rfl ?_ (by exact zF HM.out.own ((Keep.refl NoB _).alloc _) (fun _ _ h=>h)) (by exact Src.ofSlice _ zv ⟨w4.heap.size+1,0,none⟩ 1 1 _ rfl (World.news_of_block (cs:=#[t.kind,t.size,.slice B1 t.ws.length d1,.slice B2 t.bs.length d2,.slice B3 t.kids.length d3]) (t:=114) (fr:=(0,0)) HSRC.out) (by simp [Value.oneCell'])) (by simp only [maxLen];omega) (by omega) (by exact HSZ.out);intro v5 w5 hap;refine Hid.out ?_)
     refine LH ?_
     replace HM:=LH (HM.out.grow ((Keep.refl NoB _).alloc (.cells #[t.kind,t.size,.slice B1 t.ws.length d1,.slice B2 t.bs.length d2,.slice B3 t.kids.length d3] 114)))
     have hfin:=HM.out.appended (kid:=(t,.slice B1 t.ws.length d1,.slice B2 t.bs.length d2,.slice B3 t.kids.length d3)) hap HK.out.len (fun x hx=>by
      rcases List.mem_append.1 hx with e | e
      ·exact HK.out.ok x e
      ·rw [List.mem_singleton.1 e];exact HT2.out) HL.out.1 HL.out.2.1 HL.out.2.2 (fun m9 h9=>⟨fun x hx=>by
      rcases List.mem_append.1 hx with e | e
      ·exact (HK.out.sm m9 h9).1 x e
      ·rw [List.mem_singleton.1 e];exact (HSM4.out m9 h9).1,by
      have e1:=(HK.out.sm m9 h9).2
      have e2:=(HSM4.out m9 h9).2
      rw [List.map_append,List.sum_append]
      simp only [List.map_cons,List.map_nil,List.sum_cons,List.sum_nil]
      omega⟩)
     obtain ⟨A6,c6,rfl,_⟩:=zK hap.own
     have HF:=LH hfin.1
     clear n0 n1 n2 n3 n4 nf t0 t1 t2 t3 t4 tf hap
     obtain ⟨n0,n1,n2,n3,n4,nf⟩:=zA hfin.2
     clear hfin
     go_wp2
     go_roundw
     case rel=>exact ⟨j+1,l2,A2,c2,A6,c6,_,by omega,by go_num,rfl,HF⟩
     case measure=>simp [intOf];omega
    ·obtain rfl:j=q:=by omega
     have hjt':¬ ((j:Int)<x/8%5):=by have:=HQQ.out;omega
     obtain ⟨hf0,hf1,hf2,hf3,hf4,hfr⟩:=zA HK.out.res
     obtain ⟨hw5,-⟩:=zY (.int .i64 2) (.int .i64 6) (.slice A4 0 c4) (.slice none 0 0) (.slice A5 j c5) HK.out.keep (Nat.le_refl _) HK.out.res
     have HW5:=LH hw5
     have HP:Hid (TreePost deep (([]:List Int).length+1) ([]:List Int).length v w (.returned (.tuple #[.agg #[qQ,.int .i64 6,.slice A4 0 c4,qI,.slice A5 j c5],.slice A0 lj.length c0])) (((((wr.setCell ⟨w.heap.size,0,none⟩ (.int .i64 2)).setCell ⟨w.heap.size,1,none⟩ (.int .i64 6)).setCell ⟨w.heap.size,2,none⟩ (.slice A4 0 c4)).setCell ⟨w.heap.size,3,none⟩ (.slice none 0 0)).setCell ⟨w.heap.size,4,none⟩ (.slice A5 j c5))) :=
      LH (HK.out.post (by have:=HDE.out.1;omega) (by rw [zR];simp [ownB];omega) (by rw [zR];simp [needN];omega) (zR x 0) (zb _ _ _ _ _) (by rw [zR];omega) (zYB x 0) (by omega))
     clear hw5
     go_wp2
     revert HW5 HP
     generalize (((((wr.setCell ⟨w.heap.size,0,none⟩ (.int .i64 2)).setCell ⟨w.heap.size,1,none⟩ (.int .i64 6)).setCell ⟨w.heap.size,2,none⟩ (.slice A4 0 c4)).setCell ⟨w.heap.size,3,none⟩ (.slice none 0 0)).setCell ⟨w.heap.size,4,none⟩ (.slice A5 j c5))=w5
     intro HW5 HP
     obtain ⟨hf0,hf1,hf2,hf3,hf4,hfr⟩:=zA HW5.out
     refine bodyPost_ret (v:=.tuple #[.agg #[qQ,.int .i64 6,.slice A4 0 c4,qI,.slice A5 j c5],.slice A0 lj.length c0]) ?_ rfl HP.out
     rw [results_cell_tmp rfl];go_simp
theorem zMF (a:List (List Int)) (i:Nat) (hi:i<a.length) (k:Nat) (hk:k≤a[i].length):((a.take i).flatten++a[i].take k).length≤a.flatten.length:=by
 have h1:(a.take (i+1)).flatten.length≤a.flatten.length:=by
  conv=>rhs;rw [← List.take_append_drop (i+1) a,List.flatten_append,List.length_append]
  omega
 rw [List.take_succ_eq_append_getElem hi,List.flatten_append,List.length_append] at h1
 have e:([a[i]]:List (List Int)).flatten.length=a[i].length:=by simp
 rw [e] at h1
 rw [List.length_append,List.length_take]
 omega
theorem zDD (a:List (List Int)) (ho:OkA a) (hfl:a.flatten.length≤1000000) (A:Option Addr) (c:Nat) (w:World) (h:RowsR .u64 a (.slice A a.length c) w) :
    Calls Tryz.prog 72 #[.slice A a.length c] w fun e w'=>∃ A c,e=.returned (.slice A (rB a.flatten).length c)∧Grow w w'∧w'.ownsRow w.heap.size 5 1 (.slice A (rB a.flatten).length c) (rB a.flatten).length (u8s (rB a.flatten)):=by
 have H:=LH h
 have HO:=LH ho
 have HFL:=LH hfl
 have hseg:=ho.segs
 clear h ho hfl
 go_enter Tryz.func72,Tryz.ntmps72
 go_wp2
 go_loopw [3,4,5,6] (fun vo v v5 v6 wr=>∃ i:Nat,i≤a.length∧v=.int .i64 i∧∃ A4 c4,vo=.slice A4 (rB (a.take i).flatten).length c4∧Hid (Grow w wr∧wr.ownsRow w.heap.size 5 1 (.slice A4 (rB (a.take i).flatten).length c4) (rB (a.take i).flatten).length (u8s (rB (a.take i).flatten)))) (fun _ v _ _ _=>a.length-(intOf v).toNat)
 case atStart=>exact ⟨0,by omega,rfl,none,0,by simp [rB],Keep.refl _ _,by simpa [rB,u8s] using World.ownsRow_nil w w.heap.size 5 1⟩
 case round =>
  obtain ⟨i,hi,rfl,A4,c4,rfl,HS⟩:=hrel
  by_cases hlt:i<a.length
  ·have hw:IntKind.i64.wrap ((i:Int)+1)=(i:Int)+1:=IntWalk.i64_in _ (by omega)
   have hlt':(i:Int)<a.length:=by omega
   go_wp2_with fail
   obtain ⟨wo,rfl⟩:∃ wo:World,wo=wr:=⟨_,rfl⟩
   go_loopw [3,5,6] (fun vo v v6 wr=>∃ k:Nat,k≤a[i].length∧v=.int .i64 k∧∃ A4 c4 n,vo=.slice A4 n c4∧Hid (n=(rB ((a.take i).flatten++a[i].take k)).length∧Grow w wr∧wr.ownsRow w.heap.size 5 1 (.slice A4 n c4) n (u8s (rB ((a.take i).flatten++a[i].take k))))) (fun _ v _ _=>a[i].length-(intOf v).toNat)
   case atStart=>exact ⟨0,by omega,rfl,A4,c4,_,rfl,by simp,HS.out.1,by simpa using HS.out.2⟩
   case round =>
    obtain ⟨k,hk,rfl,A5,c5,n5,rfl,HS5⟩:=hrel
    obtain ⟨ad,A',c',rfl,h2,h3⟩:=(H.out.grow HS5.out.2.1).at_ i hlt
    have hwl:a[i].length≤100000:=HO.out.words _ (List.getElem_mem hlt)
    have hn5:=HS5.out.1
    rw [zMB] at hn5
    have hfk:=zMF a i hlt k hk
    have hn9:n5≤8000000:=by have:=HFL.out;omega
    by_cases hkl:k<a[i].length
    ·have hwk:IntKind.i64.wrap ((k:Int)+1)=(k:Int)+1:=IntWalk.i64_in _ (by omega)
     have hkl':(k:Int)<a[i].length:=by omega
     obtain ⟨ad2,rfl,q2⟩:=SliceR.int_at (k:=.u64) h3 k hkl
     have hx:=HO.out.nums _ (List.getElem_mem hlt) _ (List.getElem_mem hkl)
     have HX:=LH hx
     have E1:Hid (u8s (rB ((a.take i).flatten++a[i].take (k+1)))=u8s (rB ((a.take i).flatten++a[i].take k))++u8s (putB a[i][k] 8)):=LH (by
      rw [List.take_succ_eq_append_getElem hkl,← List.append_assoc,zlH,zdE])
     have E2:Hid (n5+8=(rB ((a.take i).flatten++a[i].take (k+1))).length):=LH (by
      rw [zMB,List.take_succ_eq_append_getElem hkl,← List.append_assoc,List.length_append]
      simp only [List.length_singleton]
      omega)
     clear hx hn5 hfk h3
     go_wp2_with fail
     refine (zTC a[i][k] 8 wr HX.out.1 HX.out.2 (Nat.le_refl _)).mono ?_
     rintro e w2 ⟨A6,c6,rfl,hg2,ho2⟩
     rw [zX] at ho2
     have HG2:=LH (HS5.out.2.1.grow hg2)
     have HO5:=LH (zF HS5.out.2.2 hg2 (fun _ _ h=>h))
     have HO2:=LH (SliceR.of_own ho2)
     rw [zX]
     clear hg2 ho2
     go_wp2_with (at_builtin;refine zL _ rfl _ _ 23 23 rfl w.heap.size 5 (.int .u8 0) 1 1 zW zz rfl (.slice A5 n5 c5) n5 (u8s (rB ((a.take i).flatten++a[i].take k))) rfl (.slice A6 8 c6) 8 (u8s (putB a[i][k] 8)) rfl ?_ (by exact HO5.out) (by exact SliceR.src HO2.out zW (zJB _)) (by simp only [maxLen];omega) (by omega) (by exact HG2.out.size);intro v3 w3 hap;refine Hid.out ?_)
     refine LH ?_
     have Hg3:Hid (Grow w w3):=LH (((HG2.out.mono (T:=fun k=>w.heap.size≤k) (fun _ h=>h.elim)).grown hap.grew (fun k hk=>.inl (HO5.out.lt k hk).1)).new (fun _ h=>h))
     have Ho3:=LH hap.own
     obtain ⟨A7,c7,rfl,_⟩:=zK hap.own
     clear hap
     rw [← E1.out] at Ho3
     go_wp2
     go_roundw
     case rel=>exact ⟨k+1,by omega,by go_num,A7,c7,_,rfl,E2.out,Hg3.out,Ho3.out⟩
     case measure=>simp [intOf];omega
    ·obtain rfl:k=a[i].length:=by omega
     have hkl':¬ ((a[i].length:Int)<a[i].length):=by omega
     have HF:Hid (n5=(rB (a.take (i+1)).flatten).length∧u8s (rB ((a.take i).flatten++a[i].take a[i].length))=u8s (rB (a.take (i+1)).flatten)):=LH (by
      have e:(a.take (i+1)).flatten=(a.take i).flatten++a[i].take a[i].length:=by
       rw [List.take_succ_eq_append_getElem hlt,List.flatten_append,List.take_length];simp
      rw [e]
      exact ⟨HS5.out.1,rfl⟩)
     have HO5:=LH HS5.out.2.2
     have HG5:=LH HS5.out.2.1
     rw [HF.out.2,HF.out.1] at HO5
     clear hn5 hfk h3
     go_wp2
     go_roundw
     case rel=>exact ⟨i+1,by omega,by go_num,A5,c5,by rw [HF.out.1],HG5.out,HO5.out⟩
     case measure=>simp [intOf];omega
  ·obtain rfl:i=a.length:=by omega
   have hlt':¬ ((a.length:Int)<a.length):=by omega
   rw [List.take_length] at HS ⊢
   go_wp2
   go_ret
   exact ⟨A4,c4,rfl,HS.out.1,HS.out.2⟩
end Go.Proofs.YtfkcpaahdlkcdaaGreat

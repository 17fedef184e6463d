import Derived.Test.YtfkcpaahdlkcdaaGreatRRecvReads37
import Derived.Test.YtfkcpaahdlkcdaaGreatRRecvReads39
set_option linter.unusedSimpArgs false
set_option linter.unusedVariables false
set_option maxRecDepth 100000
set_option maxHeartbeats 16000000
namespace Go.Proofs.YtfkcpaahdlkcdaaGreat
open Go.RowKit
theorem zHK (a:List (List Int)) (ho:OkA a) (hf:fitsB (szs a)=true) (A:Option Addr) (c:Nat) (w:World) (h:RowsR .u64 a (.slice A a.length c) w) (A2:Option Addr) (c2:Nat) (st:List Int) (hst:SliceR 1 (.slice A2 st.length c2) st.length (ints st) w) (hk:∀ k∈st,0≤k∧k≤1000000) (hl:st.length≤32) (at_:Int) (ha : -1000000≤at_∧at_≤1000000):Calls Tryz.prog 38 #[.slice A a.length c,.agg #[.slice A2 st.length c2,.int .i64 at_],.int .i64 8192] w (QVPost (walkP (szs a) (wordA a) st at_ 8192) w):=by
 obtain ⟨h3,h4,hgc⟩:=zU w (.cells #[.slice A2 st.length c2,.int .i64 at_] 83) (.cells qC 86)
 have HP:=LH h3
 have HZ:=LH h4
 have HG:=LH hgc
 have HRT:=LH (zcB a A c _ (h.grow hgc) hf)
 obtain ⟨RV,hRV⟩:∃ RV,walkP (szs a) (wordA a) st at_ 8192=RV:=⟨_,rfl⟩
 have HW:=LH (fun w' (hg:Grow w w')=>zUH a ho A c w' (h.grow hg) A2 c2 st (hst.grow hg) hk hl at_ ha)
 rw [hRV] at HW ⊢
 clear h ho hf hst hk ha h3 h4 hgc hRV
 go_enter Tryz.func38,Tryz.ntmps38
 go_wp2_with fail
 refine HRT.out.mono ?_
 rintro e w1 ⟨rfl,hg⟩
 replace HG:=LH (HG.out.grow hg)
 replace HZ:=LH (Grow.heap hg HZ.out)
 obtain ⟨p0,p1,pf⟩:=zVA (Grow.heap hg HP.out)
 clear hg HRT
 go_wp2_with fail
 refine (HW.out _ HG.out).mono ?_
 rintro e w3 ⟨rfl,hg⟩
 have hga:=(Keep.refl NoB w3).alloc (.cells RV.1 86)
 have hz3:=Grow.heap hg HZ.out
 have hb3:=(gE hz3).1
 have hne1:w3.heap.size≠w.heap.size+1:=by omega
 have hne2:w.heap.size+1≠w3.heap.size:=by omega
 have HG3:=LH (HG.out.grow (hg.grow hga))
 have HZ3:=LH (Grow.heap hga hz3)
 obtain ⟨x0,x1,x2,x3,x4,xf⟩:=zA (heap_alloc_new w3 (.cells RV.1 86))
 clear hg hga hz3 hb3 p0 p1 pf HW HZ HG HP
 obtain ⟨y0,y1,y2,y3,y4,yf⟩:=zA HZ3.out
 go_wp2
 refine ret5 HG3.out (by omega) HZ3.out (fun w' z0 z1 z2 z3 z4 zf=>?_) rfl (fun w' hg=>⟨rfl,hg⟩)
 rw [results_cell_tmp rfl];go_simp
theorem zWH (a:List (List Int)) (ho:OkA a) (A A2:Option Addr) (c c2:Nat) (w:World) (h:RowsR .u64 a (.slice A a.length c) w) (h2:RowsR .u64 a (.slice A2 a.length c2) w):Calls Tryz.prog 44 #[.slice A a.length c,.slice A2 a.length c2] w fun e w'=>e=.returned (.bool true)∧Grow w w':=by
 have H:=LH h
 have H2:=LH h2
 have HA:=LH ho
 clear h h2 ho
 go_enter Tryz.func44,Tryz.ntmps44
 go_wp2
 go_loopw [5] (fun v wr=>∃ i:Nat,i≤a.length∧v=.int .i64 i∧Hid (Grow w wr)) (fun v _=>a.length-(intOf v).toNat)
 case atStart=>exact ⟨0,by omega,rfl,LH (Keep.refl _ _)⟩
 case round =>
  obtain ⟨i,hi,rfl,HG⟩:=hrel
  have hi0:0≤(i:Int):=by omega
  by_cases hlt:i<a.length
  ·have hlt':(i:Int)<a.length:=by omega
   have hwi:IntKind.i64.wrap ((i:Int)+1)=(i:Int)+1:=IntWalk.i64_in _ (by have:=HA.out.segs;omega)
   obtain ⟨ad,A',c',rfl,q0,r0⟩:=(H.out.grow HG.out).at_ i hlt
   obtain ⟨ad2,A2',c2',rfl,q1,r1⟩:=(H2.out.grow HG.out).at_ i hlt
   have hls:=HA.out.words _ (List.getElem_mem hlt)
   have HR0:=LH r0
   have HR1:=LH r1
   have HQ0:=LH q0
   have HQ1:=LH q1
   generalize a[i]=s at HR0 HR1 HQ0 HQ1 hls q0 q1 r0 r1
   clear r0 r1
   go_wp2
   refine zE [0,1,2,3,4,5,6,7,8,9,10] [] [3,8] [] rfl (by kernel_rfl) ?_
   iterate 3
    refine ord_p ?_
   refine oc1 q0 ?_
   iterate 4
    refine ord_p ?_
   refine oc1 q1 ?_
   iterate 2
    refine ord_p ?_
   refine zD ?_
   have HGD:=LH (HG.out.drew)
   replace HQ0:=LH ((Keep.refl NoB wr).drew.cell HQ0.out (fun h=>h))
   replace HQ1:=LH ((Keep.refl NoB wr).drew.cell HQ1.out (fun h=>h))
   replace HR0:=LH (HR0.out.grow (Keep.refl NoB wr).drew)
   replace HR1:=LH (HR1.out.grow (Keep.refl NoB wr).drew)
   clear q0 q1
   obtain ⟨wo,hwo⟩:∃ wo:World,wr.drew=wo:=⟨_,rfl⟩
   rw [hwo] at HGD HQ0 HQ1 HR0 HR1 ⊢
   clear hwo HG
   go_wp2
   go_loopw [6] (fun v wv=>∃ k:Nat,k≤s.length∧v=.int .i64 k∧Hid (Grow wo wv)) (fun v _=>s.length-(intOf v).toNat)
   case atStart=>exact ⟨0,by omega,rfl,LH (Keep.refl _ _)⟩
   case round =>
    obtain ⟨k,hk,rfl,HV⟩:=hrel
    have hk0:0≤(k:Int):=by omega
    have q0:=HV.out.cell HQ0.out (fun h=>h)
    have q1:=HV.out.cell HQ1.out (fun h=>h)
    by_cases hlk:k<s.length
    ·have hlk':(k:Int)<s.length:=by omega
     have hwk:IntKind.i64.wrap ((k:Int)+1)=(k:Int)+1:=IntWalk.i64_in _ (by omega)
     obtain ⟨ad3,hA3,e0⟩:=SliceR.int_at (k:=.u64) (HR0.out.grow HV.out) k hlk
     obtain ⟨ad4,hA4,e1⟩:=SliceR.int_at (k:=.u64) (HR1.out.grow HV.out) k hlk
     subst hA3 hA4
     generalize s[k]=x at e0 e1
     go_wp2
     refine zE [0,1,2,3,4,5,6,7,8,9,10,11,12,13,14] [] [3,6,10,13] [] rfl (by kernel_rfl) ?_
     iterate 3
      refine ord_p ?_
     refine oc1 q0 ?_
     iterate 2
      refine ord_p ?_
     refine oc1 e0 ?_
     iterate 3
      refine ord_p ?_
     refine oc1 q1 ?_
     iterate 2
      refine ord_p ?_
     refine oc1 e1 ?_
     refine ord_p ?_
     refine zD ?_
     have HVD:=LH HV.out.drew
     clear q0 q1 e0 e1
     go_wp2
     go_roundw
     case rel=>exact ⟨k+1,by omega,by go_num,HVD⟩
     case measure=>simp [intOf];omega
    ·obtain rfl:k=s.length:=by omega
     have hlk':¬ ((s.length:Int)<s.length):=by omega
     have HN:=LH (HGD.out.grow HV.out)
     go_wp2
     go_roundw
     case rel=>exact ⟨i+1,by omega,by go_num,HN⟩
     case measure=>simp [intOf];omega
  ·obtain rfl:i=a.length:=by omega
   have hlt':¬ ((a.length:Int)<a.length):=by omega
   go_wp2
   go_ret
   exact ⟨rfl,HG.out⟩
theorem retA2 {P:Program} {fn:Func} {R:Ending→World→Prop} {a:Act} {w0 w1:World} {b t:Nat} {x0 x1 v0 v1:Value} (hg:Grow w0 w1) (hb:w0.heap.size≤b) (hz:w1.heap[b]? = some (.cells #[x0,x1] t (0,0))) (hr:∀ w':World,w'.cell? ⟨b,0,none⟩=some v0→w'.cell? ⟨b,1,none⟩=some v1→(∀ o,w'.frozen? ⟨b,o,none⟩=false)→(results fn a.tmps).run P w'=.ok (.agg #[v0,v1]) w') (hd:a.defers=[]) (hR:∀ w',Grow w0 w'→Keep (fun j=>j=b) w1 w'→R (.returned (.agg #[v0,v1])) w'):bodyPost P fn R .ret a ((w1.setCell ⟨b,0,none⟩ v0).setCell ⟨b,1,none⟩ v1):=by
 have h1:((w1.setCell ⟨b,0,none⟩ v0).setCell ⟨b,1,none⟩ v1).heap[b]? = some (.cells #[v0,v1] t (0,0)):=by
  simp only [World.setCell,Array.getElem?_modify]
  simp [hz]
 exact bodyPost_ret (hr _ (World.news_of_block h1 0 _ rfl) (World.news_of_block h1 1 _ rfl) (fun o=>zN o h1)) hd (hR _ ((hg.setCell (p:=⟨b,0,none⟩) (.inr hb) _).setCell (p:=⟨b,1,none⟩) (.inr hb) _) (((Keep.refl (fun j=>j=b) w1).setCell (p:=⟨b,0,none⟩) (.inl rfl) _).setCell (p:=⟨b,1,none⟩) (.inl rfl) _))
def stepsOf (l:List Int):List Int:=(l.take 6).map (· % 6)
theorem zZB (l:List Int):(stepsOf l).length=min 6 l.length:=by simp [stepsOf]
theorem zkI {l:List Int} (hu:okU l):∀ k∈stepsOf l,0≤k∧k≤1000000:=fun k hk=>by
 obtain ⟨x,_,rfl⟩:=List.mem_map.1 hk
 show 0≤x%6∧x%6≤1000000
 omega
theorem zXH {l:List Int} {i:Nat} (hi:i<l.length) (h6:i<6):(stepsOf l).take (i+1)=(stepsOf l).take i++[l[i]%6]:=by
 have h:i<(stepsOf l).length:=by rw [zZB];omega
 rw [List.take_succ_eq_append_getElem h]
 simp [stepsOf]
theorem zlI (A:Option Addr) (c:Nat) (l:List Int) (at_:Int) (w:World) (h:SliceR 1 (.slice A l.length c) l.length (u8s l) w) (hu:okU l) (ha:0≤at_∧at_≤255):Calls Tryz.prog 37 #[.slice A l.length c,.int .u8 at_] w fun e w'=>∃ A2 c2,e=.returned (.agg #[.slice A2 (stepsOf l).length c2,.int .i64 (at_%12-2)])∧Grow w w'∧Foot (SliceR 1 (.slice A2 (stepsOf l).length c2) (stepsOf l).length (ints (stepsOf l))) w' (fun j=>w.heap.size≤j∧j<w'.heap.size):=by
 obtain ⟨m,hm⟩:∃ m,at_%12=m:=⟨_,rfl⟩
 have hmt:at_.tmod 12=m:=by rw [Int.tmod_eq_emod_of_nonneg ha.1];exact hm
 have hm0:0≤m:=by omega
 have hm1:m≤11:=by omega
 have hwm8:IntKind.u8.wrap m=m:=IntWalk.u8_in _ (by omega)
 have hwm:IntKind.i64.wrap m=m:=IntWalk.i64_in _ (by omega)
 have hwm2:IntKind.i64.wrap (m-2)=m-2:=IntWalk.i64_in _ (by omega)
 rw [hm]
 obtain ⟨h3,h4,hgc⟩:=zU w (.cells #[qI,qJ] 83) (.cells #[qI,.int .i64 (m-2)] 83)
 obtain ⟨wB,hwB⟩:∃ wB,(w.alloc (.cells #[qI,qJ] 83)).alloc (.cells #[qI,.int .i64 (m-2)] 83)=wB:=⟨_,rfl⟩
 have hsz:wB.heap.size=w.heap.size+2:=by rw [← hwB];simp
 rw [hwB] at h3 h4 hgc
 have HZ:=LH h3
 have HP:=LH h4
 have HG:=LH hgc
 have HT:=LH h
 have HSZ:=LH hsz
 have ha0:=ha.1
 have ha1:=ha.2
 have HU:=LH hu
 clear h hu ha h3 h4 hgc hsz
 go_enter Tryz.func37,Tryz.ntmps37
 go_wp2
 try rw [hwB]
 clear hwB
 go_loopw [6] (fun v wr=>∃ i:Nat,i≤(stepsOf l).length∧v=.int .i64 i∧∃ A4 c4,Hid (Keep (fun j=>j=w.heap.size+1) wB wr∧wr.heap[w.heap.size+1]? = some (.cells #[.slice A4 i c4,.int .i64 (m-2)] 83 (0,0))∧wr.ownsRow (w.heap.size+2) 3 1 (.slice A4 i c4) i (ints ((stepsOf l).take i)))) (fun v _=>(stepsOf l).length-(intOf v).toNat)
 case atStart=>exact ⟨0,by omega,rfl,none,0,LH ⟨Keep.refl _ _,HP.out,by simpa [ints] using World.ownsRow_nil wB (w.heap.size+2) 3 1⟩⟩
 case round =>
  obtain ⟨i,hi,rfl,A4,c4,HI⟩:=hrel
  have hi0:0≤(i:Int):=by omega
  have hsl:=zZB l
  obtain ⟨g0,g1,gf⟩:=zVA HI.out.2.1
  by_cases hlt:i<l.length
  ·have hlt':(i:Int)<l.length:=by omega
   by_cases h6:i<6
   ·have h6':(i:Int)<6:=by omega
    have hwi:IntKind.i64.wrap ((i:Int)+1)=(i:Int)+1:=IntWalk.i64_in _ (by omega)
    have hgw:Grow w wr:=HG.out.trans HI.out.1 (fun j hj=>.inr (by omega))
    obtain ⟨ad,hA,q0⟩:=SliceR.int_at (k:=.u8) (HT.out.grow hgw) i hlt
    have hli:=HU.out _ (List.getElem_mem hlt)
    have e1:ints ((stepsOf l).take (i+1))=ints ((stepsOf l).take i)++[.int .i64 (l[i]%6)]:=by
     rw [zXH hlt h6]
     simp [ints]
    have E1:=LH e1
    subst hA
    generalize l[i]=x at q0 hli E1 e1
    clear e1
    obtain ⟨y,hy⟩:∃ y,x%6=y:=⟨_,rfl⟩
    have hyt:x.tmod 6=y:=by rw [Int.tmod_eq_emod_of_nonneg hli.1];exact hy
    have hy0:0≤y:=by omega
    have hy1:y≤5:=by omega
    have hwy8:IntKind.u8.wrap y=y:=IntWalk.u8_in _ (by omega)
    have hwy:IntKind.i64.wrap y=y:=IntWalk.i64_in _ (by omega)
    rw [hy] at E1
    go_wp2
    refine zE [0,1,2,3,4,5,6,7,8,9,10,11] [8,9,11] [1,5] [9,11] rfl (by kernel_rfl) ?_
    refine ord_p ?_
    refine oc1 g0 ?_
    iterate 3
     refine ord_p ?_
    refine oc1 q0 ?_
    iterate 2
     refine ord_p ?_
    refine zh rfl rfl rfl rfl ?_ ?_ ?_ ?_ ?_ ?_
    rotate_left 3
    ·go_simp;first | with_reducible rfl | (constructor <;> with_reducible rfl)
    ·simp only [Act.put,pB,pC,pD];rfl
    refine zmA rfl rfl (fun K hK=>?_)
    refine zKK _ rfl _ _ 37 37 rfl (w.heap.size+2) 3 (.int .i64 0) 1 8 ziA zUB rfl (.slice A4 i c4) i (ints ((stepsOf l).take i)) rfl (.slice (some ⟨wr.heap.size,0,none⟩) 1 1) 1 [.int .i64 y] rfl ?_ (by exact zF HI.out.2.2 ((Keep.refl NoB wr).drew.alloc _) (fun _ _ h=>h)) (by exact Src.ofSlice _ ziA ⟨wr.heap.size,0,none⟩ 1 1 _ rfl (World.news_of_block (cs:=#[.int .i64 y]) (t:=3) (fr:=(0,0)) (heap_alloc_new wr.drew _)) (by simp [Value.oneCell'])) (by simp only [maxLen];omega) (by omega) (by have:=HI.out.1.size;have:=HSZ.out;simp;omega)
    intro v2 w2 hap
    have hk2:Keep (fun k=>(Value.slice A4 i c4).ownBlock=some k) wr w2:=((Keep.refl _ wr).drew.alloc _).grown hap.grew (fun k hk=>.inl hk)
    have hgl:=(gE HI.out.2.1).1
    have hb2:=(hk2.block (w.heap.size+1) hgl (fun h=>by have:=(HI.out.2.2.lt _ h).1;omega)).trans HI.out.2.1
    have hkp:Keep (fun j=>j=w.heap.size+1) wB w2:=HI.out.1.trans hk2 (fun k hk=>.inr (by have:=(HI.out.2.2.lt k hk).1;have:=HSZ.out;omega))
    have ho:=hap.own
    obtain ⟨A5,c5,rfl,_⟩:=zK hap.own
    rw [← E1.out] at ho
    have HN:=LH (And.intro hkp (And.intro hb2 ho))
    refine hK _ _ ⟨fun h=>absurd (by simp) h,?_⟩
    clear hK K hap hk2 hkp ho hgl g0 g1 gf q0
    obtain ⟨g0,g1,gf⟩:=zVA hb2
    clear hb2
    simp only [Act.put,pB,pC,pD]
    refine ord_p ?_
    refine zJ rfl rfl rfl rfl ?_ ?_ (fun h=>absurd (by simp) h) ?_
    rotate_left
    ·go_simp;with_reducible rfl
    refine zD ?_
    have hst:(w2.setCell ⟨w.heap.size+1,0,none⟩ (.slice A5 (i+1) c5)).heap[w.heap.size+1]? = some (.cells #[.slice A5 (i+1) c5,.int .i64 (m-2)] 83 (0,0)):=zdA HN.out.2.1 0 _
    have hks:Keep (fun j=>j=w.heap.size+1) w2 (w2.setCell ⟨w.heap.size+1,0,none⟩ (.slice A5 (i+1) c5)):=zV _ _ _ _
    have HN2:=LH (And.intro (HN.out.1.trans hks (fun j hj=>.inl hj)) (And.intro hst (zF HN.out.2.2 hks (fun k hk e=>by have:=(HN.out.2.2.lt k hk).1;omega))))
    clear hst hks g0 g1 gf HN HI
    go_wp2
    go_roundw
    case rel=>exact ⟨i+1,by omega,by go_num,A5,c5,HN2⟩
    case measure=>simp [intOf];omega
   ·have h6':¬ (i:Int)<6:=by omega
    obtain rfl:i=(stepsOf l).length:=by omega
    have hz:=(HI.out.1.block w.heap.size (by have:=HSZ.out;omega) (by omega)).trans HZ.out
    have hgw:Grow w wr:=HG.out.trans HI.out.1 (fun j hj=>.inr (by omega))
    have HGW:=LH hgw
    have HZ1:=LH hz
    obtain ⟨z0,z1,zf⟩:=zVA hz
    have hne:w.heap.size≠w.heap.size+1:=by omega
    clear hgw hz hsl
    go_wp2
    refine retA2 HGW.out (Nat.le_refl _) HZ1.out (fun w' y0 y1 yf=>?_) rfl (fun w' hg hk=>⟨A4,c4,rfl,hg,?_⟩)
    ·rw [zO rfl];go_simp
    ·have ho:=zF HI.out.2.2 hk (fun k hk e=>by have:=(HI.out.2.2.lt k hk).1;omega)
     rw [List.take_length] at ho
     exact Foot.mono (G:=fun j=>w.heap.size≤j∧j<w'.heap.size) (Foot.of_own ho) (fun j hj=>hj.2) (fun j hj=>⟨by have:=(ho.lt j hj).1;omega,(ho.lt j hj).2⟩)
  ·have hlt':¬ (i:Int)<l.length:=by omega
   obtain rfl:i=(stepsOf l).length:=by omega
   have hz:=(HI.out.1.block w.heap.size (by have:=HSZ.out;omega) (by omega)).trans HZ.out
   have hgw:Grow w wr:=HG.out.trans HI.out.1 (fun j hj=>.inr (by omega))
   have HGW:=LH hgw
   have HZ1:=LH hz
   obtain ⟨z0,z1,zf⟩:=zVA hz
   have hne:w.heap.size≠w.heap.size+1:=by omega
   clear hgw hz hsl
   go_wp2
   refine retA2 HGW.out (Nat.le_refl _) HZ1.out (fun w' y0 y1 yf=>?_) rfl (fun w' hg hk=>⟨A4,c4,rfl,hg,?_⟩)
   ·rw [zO rfl];go_simp
   ·have ho:=zF HI.out.2.2 hk (fun k hk e=>by have:=(HI.out.2.2.lt k hk).1;omega)
    rw [List.take_length] at ho
    exact Foot.mono (G:=fun j=>w.heap.size≤j∧j<w'.heap.size) (Foot.of_own ho) (fun j hj=>hj.2) (fun j hj=>⟨by have:=(ho.lt j hj).1;omega,(ho.lt j hj).2⟩)
def lenK:Option Int→Int
 | none=>0
 | some _=>1
theorem RvOut.len {kd:Option Int} {w0 w:World} {v:Value} (h:RvOut kd w0 v w):∃ (A:Option Addr) (n c:Nat),v=.slice A n c∧(n:Int)=lenK kd:=by
 cases kd with
 | none=>exact ⟨none,0,0,h,rfl⟩
 | some k =>
  obtain ⟨b,s,i,m,rfl,_⟩:=h
  exact ⟨_,1,1,rfl,rfl⟩
theorem zIK {g:Nat} {d:RC} {w:World} (h:RCell g d w) (hp:d.phase≠2):Calls Tryz.prog 42 #[.pointer (some ⟨g,0,none⟩)] w fun e w'=>e=.returned (.tuple #[qI,qL])∧w=w':=by
 obtain ⟨c0,c1,c2,c3,c4,c5,c6,c7,c8,c9,c10,c11,c12,c13,c14,c15,c16,c17,c18,c19,c20,cf⟩:=zH h
 have hb:(d.phase != 2)=true:=bne_iff_ne.2 hp
 clear h
 go_enter Tryz.func42,Tryz.ntmps42
 go_wp2
 go_ret2
 exact ⟨rfl,rfl⟩
theorem zmI {g b:Nat} {rc:RC} {p:PP} {d:Par} {G:Nat→Prop} {w:World} (h:RCell g rc w) (hp:rc.phase=2) (hpa:rc.part=some ⟨b,0,none⟩) (hP:PAt b p d G w) (hall:chunksN d.sz≤popB d.known):Calls Tryz.prog 42 #[.pointer (some ⟨g,0,none⟩)] w fun e w'=>∃ A c F,e=.returned (.tuple #[.slice A (arenaW d.words d.sz).length c,.bool true])∧Grow w w'∧Foot (RowsR .u64 (arenaW d.words d.sz) (.slice A (arenaW d.words d.sz).length c)) w' F∧∀ k,F k→w.heap.size≤k:=by
 obtain ⟨c0,c1,c2,c3,c4,c5,c6,c7,c8,c9,c10,c11,c12,c13,c14,c15,c16,c17,c18,c19,c20,cf⟩:=zH h
 rw [hp] at c6
 rw [hpa] at c0
 have HP:=LH (zID hP hall)
 clear h hp hpa hP hall
 go_enter Tryz.func42,Tryz.ntmps42
 go_wp2_with fail
 refine HP.out.mono ?_
 rintro e w1 ⟨A,c,F,rfl,hg,hF,hn⟩
 have HFIN:=LH (And.intro hg (And.intro hF hn))
 clear hg hF hn
 go_wp2
 go_ret2
 exact ⟨A,c,F,rfl,HFIN.out.1,HFIN.out.2.1,HFIN.out.2.2⟩
theorem zVL {x:RX} (hx:x.Ok) {g st:Nat} {s:RSt} {F:Nat→Prop} {w:World} (h:RvI x g st s F w):Calls Tryz.prog 42 #[.pointer (some ⟨g,0,none⟩)] w fun e w'=>Grow w w'∧((s=.ready∧∃ A c,e=.returned (.tuple #[.slice A x.a.length c,.bool true])∧RowsR .u64 x.a (.slice A x.a.length c) w')∨(phaseS s≠2∧e=.returned (.tuple #[qI,qL]))):=by
 have hno:∀ {rc:RC},RCell g rc w→rc.phase≠2→phaseS s≠2→Calls Tryz.prog 42 #[.pointer (some ⟨g,0,none⟩)] w fun e w'=>Grow w w'∧((s=.ready∧∃ A c,e=.returned (.tuple #[.slice A x.a.length c,.bool true])∧RowsR .u64 x.a (.slice A x.a.length c) w')∨(phaseS s≠2∧e=.returned (.tuple #[qI,qL]))):=fun {rc} hc hp hps=>by
  refine (zIK hc hp).mono ?_
  rintro e w' ⟨rfl,rfl⟩
  exact ⟨Keep.refl _ _,.inr ⟨hps,rfl⟩⟩
 cases s with
 | idle =>
  obtain ⟨rc,k,Gk,h0,hp⟩:=h
  exact hno h0.cell (by omega) (by decide)
 | hear hs =>
  obtain ⟨rc,k,Gk,G,h0,hp,_⟩:=h
  exact hno h0.cell (by omega) (by simp [phaseS])
 | part kb =>
  obtain ⟨rc,b,p,G,k,Gk,h0,hp,_⟩:=h
  exact hno h0.at_.cell (by omega) (by simp [phaseS])
 | ready =>
  obtain ⟨rc,b,p,kb,G,k,Gk,h0,hp,hall,_⟩:=h
  refine (zmI h0.at_.cell hp h0.at_.part h0.at_.pat (h0.ok.full.2 hall)).mono ?_
  rintro e w' ⟨A,c,F',rfl,hg,hF,_⟩
  have hQ:x.Q=(x.a.flatten.length+7)/8:=hx.small.2.2.2.2.2.2
  have e1:arenaW (parD x kb).words (parD x kb).sz=x.a:=by
   show arenaW (wordsK x.a.flatten kb) (szs x.a)=x.a
   rw [zLE (fun i hi=>hall i (by omega)),zjD]
  rw [e1] at hF ⊢
  exact ⟨hg,.inl ⟨rfl,A,c,rfl,hF.now⟩⟩
 | fail e =>
  obtain ⟨rc,h0,_⟩:=h
  exact hno h0 (by show ((3:Int)≠2);decide) (by simp [phaseS])
theorem zUE (last:Bool) (f:Int→Int→Int→Tr×Int×Int) (a:List (List Int)) (ho:OkA a) (A:Option Addr) (c:Nat) (w:World) (h:RowsR .u64 a (.slice A a.length c) w) (seg at_ paid deep:Int) (p0:0≤paid) (p1:paid≤8192) (hl:last=decide (32≤deep)) (hd0:0≤deep) (hd1:deep≤32) (IH:Hid (last=false→∀ (seg at_ paid:Int) (w:World),RowsR .u64 a (.slice A a.length c) w→0≤paid→paid≤8192→Calls Tryz.prog 142 #[.agg #[.slice A a.length c,qL,qI,.int .i64 paid,qJ],.int .i64 seg,.int .i64 at_,.int .i64 (deep+1)] w (QNPost A a.length c (f seg at_ paid) w))) (hfp:∀ s x p,0≤p→p≤8192→(f s x p).2.1=0→0≤(f s x p).2.2∧(f s x p).2.2≤8192) :
    Calls Tryz.prog 142 #[.agg #[.slice A a.length c,qL,qI,.int .i64 paid,qJ],.int .i64 seg,.int .i64 at_,.int .i64 deep] w (QNPost A a.length c (nodeS (szs a) (wordA a) last f seg at_ paid) w):=by
 by_cases hfe:(followP (szs a) (wordA a) seg at_).2=0
 case neg=>exact zfG last f a ho A c w h seg at_ paid deep p0 p1 hl hfe
 by_cases hk:(followP (szs a) (wordA a) seg at_).1.kind=0
 ·have hno:¬ ((followP (szs a) (wordA a) seg at_).1.kind≠0∧last=true):=fun x=>x.1 hk
  by_cases hc:8192<paid+(1+obWords (followP (szs a) (wordA a) seg at_).1)
  ·exact zYH last f a ho A c w h seg at_ paid deep p0 p1 hl hfe hno hk hc
  ·exact zTE last f a ho A c w h seg at_ paid deep p0 p1 hl hd0 hd1 IH hfp hfe hno hc
 ·by_cases hd:32≤deep
  ·exact znI last f a ho A c w h seg at_ paid deep p0 p1 hl hfe hk hd
  ·have hno:¬ ((followP (szs a) (wordA a) seg at_).1.kind≠0∧last=true):=fun x=>by
     have:=x.2
     rw [hl] at this
     exact hd (by simpa using this)
   by_cases hc:8192<paid+(1+obWords (followP (szs a) (wordA a) seg at_).1)
   ·exact zZH last f a ho A c w h seg at_ paid deep p0 p1 hl hfe hno hk hd hc
   ·exact zTE last f a ho A c w h seg at_ paid deep p0 p1 hl hd0 hd1 IH hfp hfe hno hc
theorem zgG (a:List (List Int)) (ho:OkA a) (A:Option Addr) (c:Nat):∀ (l:Nat) (deep:Int),deep=32-(l:Int)→l≤32→∀ (seg at_ paid:Int) (w:World),RowsR .u64 a (.slice A a.length c) w→0≤paid→paid≤8192 →
    Calls Tryz.prog 142 #[.agg #[.slice A a.length c,qL,qI,.int .i64 paid,qJ],.int .i64 seg,.int .i64 at_,.int .i64 deep] w (QNPost A a.length c (nodeP (szs a) (wordA a) l seg at_ paid) w)
 | 0,deep,hd,hl,seg,at_,paid,w,h,p0,p1 =>
  zUE true (fun _ _ _=>(tr0,0,0)) a ho A c w h seg at_ paid deep p0 p1 (by rw [hd];rfl) (by omega) (by omega) (LH (fun h=>by cases h)) (fun _ _ _ _ _ _=>⟨by decide,by decide⟩)
 | l + 1, deep, hd, hl, seg, at_, paid, w, h, p0, p1 =>
  zUE false (nodeP (szs a) (wordA a) l) a ho A c w h seg at_ paid deep p0 p1 (by rw [eq_comm,decide_eq_false_iff_not];omega) (by omega) (by omega)
   (LH (fun _ seg at_ paid w h p0 p1=>zgG a ho A c l (deep+1) (by omega) (by omega) seg at_ paid w h p0 p1)) (fun s=>zjB (zi ho) l s)
def QDPost (r:Tr×Int) (w:World) (e:Ending) (w':World):Prop :=
 ∃ (k s:Int) (A1 A2 A3:Option Addr) (n1 c1 n2 c2 n3 c3:Nat),e=.returned (.tuple #[.agg #[.int .i64 k,.int .i64 s,.slice A1 n1 c1,.slice A2 n2 c2,.slice A3 n3 c3],.int .i64 r.2])∧Grow w w' ∧
  (r.2=0→k=r.1.kind∧s=r.1.size∧TrB r.1∧TrR w' r.1 (.slice A1 n1 c1) (.slice A2 n2 c2) (.slice A3 n3 c3))
theorem zWL {w0 c:World} {B:Nat} (hg:Grow w0 c) (h2:c.heap[B]? = some (.cells qA 114 (0,0))) (A:Option Addr) (n ca:Nat) (p2 e2 k5 s5:Int) (x1 x2 x3:Value) :
    ((c.alloc (.cells #[.slice A n ca,qL,qI,.int .i64 p2,.int .i64 e2] 216)).alloc (.cells #[.int .i64 k5,.int .i64 s5,x1,x2,x3] 114)).heap[c.heap.size]? = some (.cells #[.slice A n ca,qL,qI,.int .i64 p2,.int .i64 e2] 216 (0,0)) ∧
    ((c.alloc (.cells #[.slice A n ca,qL,qI,.int .i64 p2,.int .i64 e2] 216)).alloc (.cells #[.int .i64 k5,.int .i64 s5,x1,x2,x3] 114)).heap[c.heap.size+1]? = some (.cells #[.int .i64 k5,.int .i64 s5,x1,x2,x3] 114 (0,0)) ∧
    ((c.alloc (.cells #[.slice A n ca,qL,qI,.int .i64 p2,.int .i64 e2] 216)).alloc (.cells #[.int .i64 k5,.int .i64 s5,x1,x2,x3] 114)).heap[B]? = some (.cells qA 114 (0,0)) ∧
    Grow w0 ((c.alloc (.cells #[.slice A n ca,qL,qI,.int .i64 p2,.int .i64 e2] 216)).alloc (.cells #[.int .i64 k5,.int .i64 s5,x1,x2,x3] 114))∧Grow c ((c.alloc (.cells #[.slice A n ca,qL,qI,.int .i64 p2,.int .i64 e2] 216)).alloc (.cells #[.int .i64 k5,.int .i64 s5,x1,x2,x3] 114)):=by
 obtain ⟨ha,hb0,hga⟩:=zU c (.cells #[.slice A n ca,qL,qI,.int .i64 p2,.int .i64 e2] 216) (.cells #[.int .i64 k5,.int .i64 s5,x1,x2,x3] 114)
 exact ⟨ha,hb0,Grow.heap hga h2,hg.grow hga,hga⟩
theorem zWF (a:List (List Int)) (ho:OkA a) (A:Option Addr) (c:Nat) (w:World) (h:RowsR .u64 a (.slice A a.length c) w):Calls Tryz.prog 67 #[.slice A a.length c] w (QDPost (decP a) w):=by
 have hg0:=(Keep.refl NoB w).alloc (.cells qA 114)
 have HN:=LH (heap_alloc_new w (.cells qA 114))
 have HG:=LH hg0
 have H:=LH (h.grow hg0)
 have HA:=LH ho
 clear h ho hg0
 go_enter Tryz.func67,Tryz.ntmps67
 cases hf:fitsB (szs a) with
 | false =>
  have E:Hid (decP a=(tr0,1)):=LH (by unfold decP;rw [if_neg (by simp [hf])])
  have HR:=LH (zWG a HA.out A c _ H.out hf)
  clear hf
  go_wp2_with fail
  refine HR.out.mono ?_
  rintro e w1 ⟨rfl,hg⟩
  replace HN:=LH (hg.heap HN.out)
  replace HG:=LH (HG.out.grow hg)
  clear hg HR
  obtain ⟨n0,n1,n2,n3,n4,nf⟩:=zA HN.out
  have hst:=LH (zY (.int .i64 0) (.int .i64 0) (.slice none 0 0) (.slice none 0 0) (.slice none 0 0) HG.out (Nat.le_refl _) HN.out)
  go_wp2
  (try simp only [Exit.inBlock,Exit.then])
  obtain ⟨r0,r1,r2,r3,r4,rf⟩:=zA hst.out.1
  refine bodyPost_ret (v:=.tuple #[.agg qA,.int .i64 1]) ?_ rfl ?_
  ·rw [results_cell_tmp rfl];go_simp
  ·rw [E.out]
   exact ⟨0,0,none,none,none,0,0,0,0,0,0,rfl,hst.out.2,fun h=>by cases h⟩
 | true =>
  have E:Hid (decP a=((nodeP (szs a) (wordA a) 32 0 0 0).1,(nodeP (szs a) (wordA a) 32 0 0 0).2.1)):=LH (by unfold decP;rw [if_pos hf])
  have HR:=LH (zcB a A c _ H.out hf)
  clear hf
  go_wp2_with fail
  refine HR.out.mono ?_
  rintro e w1 ⟨rfl,hg⟩
  replace HN:=LH (hg.heap HN.out)
  replace HG:=LH (HG.out.grow hg)
  replace H:=LH (H.out.grow hg)
  clear hg HR
  have HW1:Hid (w.heap.size<w1.heap.size):=LH (gE HN.out).1
  have hcall:=zgG a HA.out A c 32 0 (by decide) (by decide) 0 0 0 w1 H.out (by decide) (by decide)
  have HC:=LH hcall
  clear hcall
  go_wp2_with fail
  refine HC.out.mono ?_
  rintro e w2 ⟨p5,k5,s5,B1,B2,B3,m1,d1,m2,d2,m3,d3,rfl,hg,hres⟩
  clear HC
  generalize nodeP (szs a) (wordA a) 32 0 0 0=r at *
  obtain ⟨e5,he5⟩:∃ e5,r.2.1=e5:=⟨_,rfl⟩
  rw [he5]
  replace HN:=LH (hg.heap HN.out)
  replace HG:=LH (HG.out.grow hg)
  obtain ⟨kC,kD,kE,kG,kg⟩:=zWL HG.out HN.out A a.length c p5 e5 k5 s5 (.slice B1 m1 d1) (.slice B2 m2 d2) (.slice B3 m3 d3)
  obtain ⟨c0,c1,c2,c3,c4,cf⟩:=zA kC
  have hlt:=(gE HN.out).1
  have HLT:Hid (w.heap.size<w2.heap.size):=LH hlt
  have KC:=LH kC
  have KD:=LH kD
  have KE:=LH kE
  have KG:=LH kG
  have Kg:=LH kg
  have HRS:=LH hres
  have HE5:=LH he5
  clear hg kC kD kE kG kg hres he5 hlt
  by_cases hz:e5=0
  case neg =>
   have hzb:(e5 != 0)=true:=by simpa using hz
   have HZ:=LH hz
   clear hz
   go_wp2
   clear c0 c1 c2 c3 c4 cf
   revert KC KD KE KG Kg
   generalize ((w2.alloc (.cells #[.slice A a.length c,qL,qI,.int .i64 p5,.int .i64 e5] 216)).alloc (.cells #[.int .i64 k5,.int .i64 s5,.slice B1 m1 d1,.slice B2 m2 d2,.slice B3 m3 d3] 114))=w3
   intro KC KD KE KG Kg
   obtain ⟨wd,hwd⟩:∃ wd:World,w3.drew=wd:=⟨_,rfl⟩
   have hdr:=(Keep.refl NoB w3).drew
   rw [hwd] at hdr
   replace KC:=LH (Grow.heap hdr KC.out)
   replace KE:=LH (Grow.heap hdr KE.out)
   replace KG:=LH (KG.out.grow hdr)
   clear hdr
   have HNE:Hid (¬ w2.heap.size=w.heap.size):=LH (by have:=HLT.out;omega)
   obtain ⟨c0,c1,c2,c3,c4,cf⟩:=zA KC.out
   obtain ⟨n0,n1,n2,n3,n4,nf⟩:=zA KE.out
   have hst:=LH (zY (.int .i64 0) (.int .i64 0) (.slice none 0 0) (.slice none 0 0) (.slice none 0 0) KG.out (Nat.le_refl _) KE.out)
   refine ze (fun j=>j=w.heap.size) [0,1,2,3,4] [3,4] [2] [] rfl (by kernel_rfl) ?_
   rw [hwd]
   clear hwd
   iterate 2
    refine ord_p ?_
   refine oc1 c4 ?_ (s0:=HNE.out)
   refine zJ rfl rfl rfl rfl ?_ ?_ ?_ ?_
   rotate_left
   ·go_simp;with_reducible rfl
   ·exact fun _=>zb _ _ _ _ _
   refine ord_s ?_
   refine zD ?_
   clear c0 c1 c2 c3 c4 cf n0 n1 n2 n3 n4 nf
   revert hst
   generalize (((((wd.setCell ⟨w.heap.size,0,none⟩ (.int .i64 0)).setCell ⟨w.heap.size,1,none⟩ (.int .i64 0)).setCell ⟨w.heap.size,2,none⟩ (.slice none 0 0)).setCell ⟨w.heap.size,3,none⟩ (.slice none 0 0)).setCell ⟨w.heap.size,4,none⟩ (.slice none 0 0))=w4
   intro hst
   go_wp2
   (try simp only [Exit.inBlock,Exit.then])
   obtain ⟨r0,r1,r2,r3,r4,rf⟩:=zA hst.out.1
   refine bodyPost_ret (v:=.tuple #[.agg qA,.int .i64 e5]) ?_ rfl ?_
   ·rw [results_cell_tmp rfl];go_simp
   ·rw [E.out]
    exact ⟨0,0,none,none,none,0,0,0,0,0,0,by rw [HE5.out],hst.out.2,fun h=>absurd (HE5.out.symm.trans h) HZ.out⟩
  ·have hzb:(e5 != 0)=false:=by simpa using hz
   have HZ:=LH hz
   obtain ⟨q1,q2,q3,q4,q5,q6,q7,q8⟩:=HRS.out (HE5.out.trans hz)
   have HB:=LH q7
   have HF:=LH (q8.grow Kg.out)
   have HKS:=LH (And.intro q2 q3)
   clear hz q1 q2 q3 q4 q5 q6 q7 q8
   obtain ⟨g0,g1,g2,g3,g4,gf⟩:=zA KD.out
   obtain ⟨n0,n1,n2,n3,n4,nf⟩:=zA KE.out
   have hst:=LH (zY (.int .i64 k5) (.int .i64 s5) (.slice B1 m1 d1) (.slice B2 m2 d2) (.slice B3 m3 d3) KG.out (Nat.le_refl _) KE.out)
   have HT:=LH (HF.out.keep (zb (N:=w.heap.size) (.int .i64 k5) (.int .i64 s5) (.slice B1 m1 d1) (.slice B2 m2 d2) (.slice B3 m3 d3)) (fun j hj e=>by have:=HW1.out;omega))
   go_wp2
   (try simp only [Exit.inBlock,Exit.then])
   obtain ⟨r0,r1,r2,r3,r4,rf⟩:=zA hst.out.1
   refine bodyPost_ret (v:=.tuple #[.agg #[.int .i64 k5,.int .i64 s5,.slice B1 m1 d1,.slice B2 m2 d2,.slice B3 m3 d3],.int .i64 0]) ?_ rfl ?_
   ·rw [results_cell_tmp rfl];go_simp
   ·rw [E.out]
    exact ⟨k5,s5,B1,B2,B3,m1,d1,m2,d2,m3,d3,by rw [HE5.out,HZ.out],hst.out.2,fun _=>⟨HKS.out.1,HKS.out.2,HB.out,HT.out.now⟩⟩
theorem zhG (a:List (List Int)) (ho:OkA a) (A:Option Addr) (c:Nat) (w:World) (h:RowsR .u64 a (.slice A a.length c) w):Calls Tryz.prog 17 #[.slice A a.length c] w fun e w'=>e=.returned (.int .i64 (checkP a))∧Grow w w':=by
 have HD:=LH (zWF a ho A c w h)
 have E:Hid (checkP a=if (decP a).2=0 then (if rightB 32 (decP a).1=true then 0 else 23) else (decP a).2):=LH rfl
 clear ho h
 go_enter Tryz.func17,Tryz.ntmps17
 go_wp2_with fail
 refine HD.out.mono ?_
 rintro e w1 ⟨k5,s5,B1,B2,B3,m1,d1,m2,d2,m3,d3,rfl,hg,hres⟩
 generalize decP a=r at *
 obtain ⟨e5,he5⟩:∃ e5,r.2=e5:=⟨_,rfl⟩
 rw [he5] at E hres ⊢
 have hga:=(Keep.refl NoB w1).alloc (.cells #[.int .i64 k5,.int .i64 s5,.slice B1 m1 d1,.slice B2 m2 d2,.slice B3 m3 d3] 114)
 have hz0:=heap_alloc_new w1 (.cells #[.int .i64 k5,.int .i64 s5,.slice B1 m1 d1,.slice B2 m2 d2,.slice B3 m3 d3] 114)
 obtain ⟨g0,g1,g2,g3,g4,gf⟩:=zA hz0
 have HG:=LH (hg.grow hga)
 have HG1:=LH hga
 have HRS:=LH hres
 clear hg hres hga hz0 HD he5
 by_cases hz:e5=0
 case neg =>
  have hzb:(e5 != 0)=true:=by simpa using hz
  replace E:=LH (E.out.trans (if_neg hz))
  clear hz
  go_wp2
  go_ret
  rw [E.out]
  exact ⟨rfl,HG.out⟩
 ·have hzb:(e5 != 0)=false:=by simpa using hz
  obtain ⟨q1,q2,q3,q4⟩:=HRS.out hz
  replace E:=LH (E.out.trans (if_pos hz))
  have HRT:=LH (zAD r.1 _ _ _ _ (q4.grow HG1.out) q3)
  rw [← q1,← q2] at HRT
  clear hz q1 q2 q3 q4
  go_wp2_with fail
  refine HRT.out.mono ?_
  rintro e w2 ⟨rfl,hg⟩
  clear HRT
  cases hr:rightB 32 r.1 with
  | true =>
   replace E:=LH (E.out.trans (if_pos hr))
   clear hr
   go_wp2
   go_ret
   rw [E.out]
   exact ⟨rfl,HG.out.grow hg⟩
  | false =>
   replace E:=LH (E.out.trans (if_neg (by simp [hr])))
   clear hr
   go_wp2
   go_ret
   rw [E.out]
   exact ⟨rfl,HG.out.grow hg⟩
end Go.Proofs.YtfkcpaahdlkcdaaGreat

import Derived.Test.YtfkcpaahdlkcdaaGreatRRecvSum07
set_option linter.unusedSimpArgs false
set_option linter.unusedVariables false
set_option maxRecDepth 100000
set_option maxHeartbeats 16000000
namespace Go.Proofs.YtfkcpaahdlkcdaaGreat
open Go.RowKit
def moreA (a:List (List Int)) (seg:Nat) (l:List Int):List (List Int):=(if seg=a.length then a++[[]] else a).set seg ((if seg=a.length then a++[[]] else a).getD seg []++l)
def moreF (a:List (List Int)) (size:Int) (full:Bool) (seg:Nat) (l:List Int):Bool :=
 full||decide (size<((moreA a seg l).getD seg []).length)||decide (16<(moreA a seg l).length)||decide (4096<(moreA a seg l).flatten.length)
theorem HdR.push {a:List (List Int)} {vs:List Value} {w:World} (h:HdR a vs w):HdR (a++[[]]) (vs++[.slice none 0 0]) w:=by
 refine ⟨by simp [h.1],fun i hi=>?_⟩
 by_cases e:i<a.length
 ·obtain ⟨A,c,h1,h2,h9⟩:=h.2 i e
  have h3:=h.1
  exact ⟨A,c,by rw [List.getElem?_append_left (by omega)];simpa [List.getElem_append_left e] using h1,by simpa [List.getElem_append_left e] using h2,by simpa [List.getElem_append_left e] using h9⟩
 ·have h3:=h.1
  obtain rfl:i=a.length:=by simp at hi;omega
  have h4:(vs++[Value.slice none 0 0])[a.length]? = some (.slice none 0 0):=by rw [← h3];simp
  exact ⟨none,0,by rw [h4];simp,by simpa [u64s] using za 1 w,fun _ _ e=>by cases e⟩
theorem zgI (a:List (List Int)) (A:Option Addr) (c:Nat) (size:Int) (full:Bool) (seg:Nat) (l:List Int) (Al:Option Addr) (cl:Nat) (hs:seg=a.length) (hla:a.length≤100) (hls:∀ s∈a,s.length≤100000) (hll:l.length≤100000) (w:World) {F:Nat→Prop} (hF:Foot (RowsU a (.slice A a.length c)) w F) (hl:SliceR 1 (.slice Al l.length cl) l.length (u64s l) w) :
    Calls Tryz.prog 196 #[.agg #[.slice A a.length c,.int .i64 size,.bool full],.int .i64 seg,.slice Al l.length cl] w fun e w'=>∃ A' c',e=.returned (.agg #[.slice A' (moreA a seg l).length c',.int .i64 size,.bool (moreF a size full seg l)])∧Grow w w'∧Foot (RowsU (moreA a seg l) (.slice A' (moreA a seg l).length c')) w' (NewF F w w'):=by
 obtain ⟨vs,hvF,hcs⟩:=RowsU.headsF hF
 have hvs:=hvF.now
 have hh:=zU w (.cells #[.slice A a.length c,.int .i64 size,.bool full] 197) (.cells #[.slice none 0 0,.int .i64 0,.bool false] 197)
 have HB0:=LH hh.1
 have HB1:=LH hh.2.1
 have HG:=LH hh.2.2
 have HV:=LH hvs
 have HL:=LH hl
 have HLS:=LH hls
 obtain ⟨n,hn⟩:∃ n,a.length=n:=⟨_,rfl⟩
 have HN:=LH hn
 have HSRC:=LH (RowsR.src (c:=c) (hvs.grow hh.2.2) (fun j u hu=>by
  obtain ⟨ad,e1,e2⟩:=hcs j u hu
  exact ⟨ad,e1,hh.2.2.cell e2 (fun h=>h)⟩))
 have hvl:=hvs.1
 obtain ⟨a1,ha1⟩:∃ a1,a++[[]]=a1:=⟨_,rfl⟩
 have HA1:=LH ha1
 have h1l:a1.length=n+1:=by rw [← ha1];simp [hn]
 have hsl:seg<a1.length:=by omega
 have HMA:Hid (moreA a seg l=a1.set seg (a1[seg]++l)):=LH (by unfold moreA;rw [if_pos hs,ha1];congr 1;simp [hsl])
 have HD1:Hid (Foot (HdR a1 (vs++[.slice none 0 0])) w F):=LH (by rw [← ha1];exact hvF.imp (fun _ h=>h.push))
 have hm0:a1[seg].length≤100000:=by subst ha1;subst hs;simp
 have hsn:(seg:Int)=n:=by omega
 have hsb:((seg:Int)==n)=true:=by rw [beq_iff_eq];exact hsn
 have HSN:=LH hsn
 obtain ⟨A1,c1,hv1,hslr,_⟩:=HD1.out.now.2 seg hsl
 obtain ⟨s1,hs1⟩:∃ s1,a1[seg]=s1:=⟨_,rfl⟩
 rw [hs1] at HMA hv1 hslr hm0
 obtain ⟨m,hm⟩:∃ m,s1.length=m:=⟨_,rfl⟩
 obtain ⟨p,hp⟩:∃ p,l.length=p:=⟨_,rfl⟩
 have HM:=LH hm
 have HP:=LH hp
 rw [hm] at hv1 hslr hm0
 have HSL:=LH hslr
 have HV1:=LH hv1
 have H1L:=LH h1l
 have HLEN:Hid ((moreA a seg l).length=n+1):=LH (by rw [HMA.out,List.length_set];exact h1l)
 have hslN:(seg:Int)<((n+1:Nat):Int):=by omega
 have HVL:Hid (vs.length=n):=LH (by omega)
 have HSEG:=LH hsl
 rw [hn] at HB0 HB1 HG HSRC hla ⊢
 rw [hp] at HL hll ⊢
 clear hs1 hF hvF hh hvs hcs hl hls hv1 hslr hn hm hp h1l hs ha1 hvl hsn
 go_enter Tryz.func196,Tryz.ntmps196
 go_wp2_with (at_builtin;refine zL _ rfl _ _ 29 29 rfl w.heap.size 111 (.slice none 0 0) 1 24 zwA zOB rfl (.slice none 0 0) 0 [] rfl (.slice A n c) n vs rfl ?_ ?c0 ?c1 ?c2 ?c3 ?c4;intro v' w2 hap;refine Hid.out ?_)
 case c0=>exact World.ownsRow_nil _ _ _ _
 case c1=>exact HSRC.out
 case c2=>simp only [maxLen];omega
 case c3=>omega
 case c4=>simp;omega
 refine LH ?_
 have ho:=hap.own
 simp only [Nat.zero_add,List.nil_append] at ho
 have hg2:=HG.out.grown hap.grew (by simp [Value.ownBlock])
 have hgx:=(Keep.refl NoB ((w.alloc (.cells #[.slice A n c,.int .i64 size,.bool full] 197)).alloc (.cells #[.slice none 0 0,.int .i64 0,.bool false] 197))).grown hap.grew (by simp [Value.ownBlock])
 have hb0:=Grow.heap hgx HB0.out
 have hb1:=Grow.heap hgx HB1.out
 have hge:∀ k,v'.ownBlock=some k→w.heap.size+2≤k:=fun k hk=>by
  rcases zo hap k hk with h | h
  ·simp [Value.ownBlock] at h
  ·have h2:k=w.heap.size+1+1:=by simpa using h
   omega
 obtain ⟨Av,cv,rfl,_⟩:=zJ ho
 have HO:=LH ho
 have HGE:=LH hge
 have HG2:=LH hg2
 have HB0':=LH hb0
 have HB1':=LH hb1
 have hw2s:=(gE hb1).1
 clear hap ho hg2 hgx hb0 hb1 hge
 clear HSRC HB0 HB1 HG
 go_wp2_with (at_builtin;refine zL _ rfl _ _ 29 29 rfl w.heap.size 111 (.slice none 0 0) 1 24 zwA zOB rfl (.slice Av n cv) n vs rfl (.slice (some ⟨w2.heap.size,0,none⟩) 1 1) 1 [.slice none 0 0] rfl ?_ ?b0 ?b1 ?b2 ?b3 ?b4;intro v' w2b hap;refine Hid.out ?_)
 case b0=>exact zE HO.out ((Keep.refl NoB w2).alloc _) (fun _ _ h=>h)
 case b1=>exact Src.ofSlice _ zwA ⟨w2.heap.size,0,none⟩ 1 1 _ rfl (World.news_of_block (cs:=#[.slice none 0 0]) (t:=111) (fr:=(0,0)) (heap_alloc_new w2 _)) (by simp [Value.oneCell'])
 case b2=>simp only [maxLen];omega
 case b3=>omega
 case b4=>simp;omega
 refine LH ?_
 have ho:=hap.own
 have hkb:Keep (fun k=>(Value.slice Av n cv).ownBlock=some k) w2 w2b:=((Keep.refl (fun k=>(Value.slice Av n cv).ownBlock=some k) w2).alloc _).grown hap.grew (fun k hk=>.inl hk)
 have hg2:=HG2.out.trans hkb (fun k hk=>.inr (by have:=HGE.out k hk;omega))
 have hge:∀ k,v'.ownBlock=some k→w.heap.size+2≤k:=fun k hk=>by
  rcases zo hap k hk with h | h
  ·exact HGE.out k h
  ·have:k=w2.heap.size+1:=by simpa using h
   omega
 have hb0:=(hkb.block w.heap.size (by omega) (fun e=>by have:=HGE.out _ e;omega)).trans HB0'.out
 have hb1:=(hkb.block (w.heap.size+1) (by omega) (fun e=>by have:=HGE.out _ e;omega)).trans HB1'.out
 have hw3s:=hkb.size
 obtain ⟨Av2,cv2,rfl,_⟩:=zJ ho
 replace HO:=LH ho
 replace HGE:=LH hge
 replace HG2:=LH hg2
 replace HB0':=LH hb0
 replace HB1':=LH hb1
 replace hw2s:w.heap.size+1<w2b.heap.size:=by omega
 clear hap ho hkb hg2 hge hb0 hb1 hw3s
 obtain ⟨N,hN⟩:∃ N,n+1=N:=⟨_,rfl⟩
 rw [hN] at HO HLEN hslN ⊢
 obtain ⟨r1,k1,e1,hr1,_,hcells1⟩:=zMA HO.out (by omega)
 injection e1 with e1 _ e2
 subst e1;subst e2
 have q1:w2b.cell? ⟨r1,seg,none⟩=some (.slice A1 m c1):=by simpa using hcells1 seg _ HV1.out
 have hr1n:=HGE.out r1 hr1
 have hr1l:=(HO.out.lt r1 hr1).2
 have HNX:=LH hN
 have HS2:=LH ((HSL.out.grow HG2.out).src (P:=Tryz.prog) (tx:=111) zw (zlA _))
 clear hcells1 hr1 hN
 go_wp2_with (at_builtin;refine zL _ rfl _ _ 111 111 rfl w2b.heap.size 22 (.int .u64 0) 1 8 zw ze rfl (.slice none 0 0) 0 [] rfl (.slice A1 m c1) m (u64s s1) rfl ?_ ?d0 ?d1 ?d2 ?d3 (Nat.le_refl _);intro v' w3 hap;refine Hid.out ?_)
 case d0=>exact World.ownsRow_nil _ _ _ _
 case d1=>exact HS2.out
 case d2=>simp only [maxLen];omega
 case d3=>omega
 refine LH ?_
 have ho:=hap.own
 simp only [Nat.zero_add,List.nil_append] at ho
 have hgx:=(Keep.refl NoB w2b).grown hap.grew (by simp [Value.ownBlock])
 obtain ⟨As,ks,rfl,_⟩:=zJ ho
 have HO3:=LH (zE HO.out hgx (fun _ _ h=>h))
 have HG3:=LH (HG2.out.grow hgx)
 have HB03:=LH (Grow.heap hgx HB0'.out)
 have HB13:=LH (Grow.heap hgx HB1'.out)
 have HS:=LH ho
 have hw23:=hgx.size
 have HS3:=LH ((HL.out.grow HG3.out).src (P:=Tryz.prog) (tx:=111) zw (zlA _))
 clear hap ho hgx HO HB0' HB1' HS2 q1
 go_wp2_with (at_builtin;refine zL _ rfl _ _ 111 111 rfl w2b.heap.size 22 (.int .u64 0) 1 8 zw ze rfl (.slice As m ks) m (u64s s1) rfl (.slice Al p cl) p (u64s l) rfl ?_ ?f0 ?f1 ?f2 ?f3 ?f4;intro v' w4 hap;refine Hid.out ?_)
 case f0=>exact HS.out
 case f1=>exact HS3.out
 case f2=>simp only [maxLen];omega
 case f3=>omega
 case f4=>exact hw23
 refine LH ?_
 have ho:=hap.own
 obtain ⟨At,kt,rfl,_⟩:=zJ ho
 have hlo3:∀ k,(Value.slice As m ks).ownBlock=some k→w2b.heap.size≤k:=fun k hk=>(HS.out.lt k hk).1
 have hlo4:∀ k,(Value.slice At (m+p) kt).ownBlock=some k→w2b.heap.size≤k:=fun k hk=>(ho.lt k hk).1
 have hk4:Keep (fun k=>(Value.slice As m ks).ownBlock=some k) w3 w4:=(Keep.refl _ w3).grown hap.grew (fun k hk=>.inl hk)
 have hO4:=zE HO3.out hk4 (fun k hk e=>by cases hk;have h9:w2b.heap.size≤r1:=hlo3 _ e;omega)
 have hg4:=HG3.out.trans hk4 (fun k hk=>.inr (by have:=hlo3 k hk;omega))
 have hb04:=(hk4.block w.heap.size (by have:=(gE HB03.out).1;exact this) (fun e=>by have:=hlo3 _ e;omega)).trans HB03.out
 have hb14:=(hk4.block (w.heap.size+1) (by have:=(gE HB13.out).1;exact this) (fun e=>by have:=hlo3 _ e;omega)).trans HB13.out
 obtain ⟨q,hq⟩:∃ q,m+p=q:=⟨_,rfl⟩
 have HQ:=LH hq
 rw [hq] at ho hlo4 ⊢
 have hqb:q≤200000:=by omega
 obtain ⟨u0,q3⟩:∃ u0,w4.cell? ⟨r1,seg,none⟩=some u0:=by
  obtain ⟨r9,k9,e9,_,_,hc9⟩:=zMA hO4 (by omega)
  injection e9 with e9 _ _
  injection e9 with e9
  injection e9 with e9
  subst e9
  have hl9:=hO4.1
  exact ⟨_,by simpa using hc9 seg _ (List.getElem?_eq_getElem (by omega))⟩
 have q3f:w4.frozen? ⟨r1,seg,none⟩=false:=hO4.frozenAt _
 have hst1:=hO4.stored seg (.slice At q kt)
 have hs5:=zE ho (zV r1 seg w4 (.slice At q kt)) (fun k hk e=>by have:=hlo4 k hk;omega)
 have hg5:=hg4.setCell (p:=⟨r1,seg,none⟩) (.inr (by show w.heap.size≤r1;omega)) (.slice At q kt)
 have hS5L:∀ k,(Value.slice At q kt).ownBlock=some k→w.heap.size+1<k:=fun k hk=>by have:=hlo4 k hk;omega
 have HRR:Hid (∀ W',Keep (fun k=>k=w.heap.size∨k=w.heap.size+1) (w4.setCell ⟨r1,seg,none⟩ (.slice At q kt)) W'→Grow w W'∧Foot (RowsU (moreA a seg l) (.slice (some ⟨r1,0,none⟩) N cv2)) W' (NewF F w W')):=by
  refine LH (fun W' hk=>?_)
  have hgw:Grow w W':=hg5.trans hk (fun j hj=>.inr (by omega))
  have hsl2:(s1++l).length=q:=by rw [List.length_append,HM.out,HP.out,HQ.out]
  have hla2:(moreA a seg l).length=N:=HLEN.out
  rw [HMA.out] at hla2 ⊢
  have o2:=zE hs5 hk (fun k hk2 e=>by have:=hS5L k hk2;omega)
  have o1:=zE hst1.1 hk (fun k hk2 e=>by cases hk2;exact absurd e (show ¬ (r1=w.heap.size∨r1=w.heap.size+1) by omega))
  have hl1:=(o1.lt r1 rfl).2
  have hl2:∀ j,(Value.slice At q kt).ownBlock=some j→w.heap.size≤j∧j<W'.heap.size:=fun j hj=>⟨by have:=hS5L j hj;omega,(o2.lt j hj).2⟩
  refine ⟨hgw,(((HD1.out.grow hgw).and ((Foot.of_own o1).and (Foot.of_ownU o2))).imp (fun W2 hW=>?_)).mono (fun k hk=>?_) (fun k hk=>?_)⟩
  ·have hsr:SliceR 1 (.slice At (s1++l).length kt) (s1++l).length (u64s (s1++l)) W2:=by
     rw [hsl2]
     have:=hW.2.2.1
     rwa [show u64s (s1++l)=u64s s1++u64s l from by simp [u64s]]
   have hd:=hW.1.set seg HSEG.out (s1++l) _ kt hsr (by rw [hsl2];exact hW.2.2.2)
   have ho1:SliceR 1 (.slice (some ⟨r1,0,none⟩) (a1.set seg (s1++l)).length cv2) (a1.set seg (s1++l)).length ((vs++[Value.slice none 0 0]).set seg (.slice At (s1++l).length kt)) W2:=by
    rw [hsl2,hla2]
    exact hW.2.1
   have:=RowsU.of_slice ho1 hd
   rw [hla2] at this
   exact this
  ·rcases hk with h | h
   ·exact Nat.lt_of_lt_of_le (HD1.out.lt h) hgw.size
   ·exact h.2
  ·rcases hk with h | h | h
   ·exact .inl h
   ·cases h;exact .inr ⟨show w.heap.size≤r1 by omega,hl1⟩
   ·exact .inr (hl2 k h)
 have HFIN:Hid (∀ B9:Bool,Grow w ((((((w4.setCell ⟨r1,seg,none⟩ (.slice At q kt)).setCell ⟨w.heap.size,0,none⟩ (.slice (some ⟨r1,0,none⟩) N cv2)).setCell ⟨w.heap.size,2,none⟩ (.bool B9)).setCell ⟨w.heap.size+1,0,none⟩ (.slice (some ⟨r1,0,none⟩) N cv2)).setCell ⟨w.heap.size+1,1,none⟩ (.int .i64 size)).setCell ⟨w.heap.size+1,2,none⟩ (.bool B9))∧Foot (RowsU (moreA a seg l) (.slice (some ⟨r1,0,none⟩) N cv2)) ((((((w4.setCell ⟨r1,seg,none⟩ (.slice At q kt)).setCell ⟨w.heap.size,0,none⟩ (.slice (some ⟨r1,0,none⟩) N cv2)).setCell ⟨w.heap.size,2,none⟩ (.bool B9)).setCell ⟨w.heap.size+1,0,none⟩ (.slice (some ⟨r1,0,none⟩) N cv2)).setCell ⟨w.heap.size+1,1,none⟩ (.int .i64 size)).setCell ⟨w.heap.size+1,2,none⟩ (.bool B9)) (NewF F w ((((((w4.setCell ⟨r1,seg,none⟩ (.slice At q kt)).setCell ⟨w.heap.size,0,none⟩ (.slice (some ⟨r1,0,none⟩) N cv2)).setCell ⟨w.heap.size,2,none⟩ (.bool B9)).setCell ⟨w.heap.size+1,0,none⟩ (.slice (some ⟨r1,0,none⟩) N cv2)).setCell ⟨w.heap.size+1,1,none⟩ (.int .i64 size)).setCell ⟨w.heap.size+1,2,none⟩ (.bool B9)))):=LH (fun B9=>HRR.out _
  (((((((Keep.refl (fun k=>k=w.heap.size∨k=w.heap.size+1) (w4.setCell ⟨r1,seg,none⟩ (.slice At q kt))).setCell (p:=⟨w.heap.size,0,none⟩) (.inl (.inl rfl)) _).setCell (p:=⟨w.heap.size,2,none⟩) (.inl (.inl rfl)) _).setCell (p:=⟨w.heap.size+1,0,none⟩) (.inl (.inr rfl)) _).setCell (p:=⟨w.heap.size+1,1,none⟩) (.inl (.inr rfl)) _).setCell (p:=⟨w.heap.size+1,2,none⟩) (.inl (.inr rfl)) _)))
 have HW6:=LH (HRR.out ((w4.setCell ⟨r1,seg,none⟩ (.slice At q kt)).setCell ⟨w.heap.size,0,none⟩ (.slice (some ⟨r1,0,none⟩) N cv2)) ((Keep.refl (fun k=>k=w.heap.size∨k=w.heap.size+1) (w4.setCell ⟨r1,seg,none⟩ (.slice At q kt))).setCell (p:=⟨w.heap.size,0,none⟩) (.inl (.inl rfl)) _)).2.now
 obtain ⟨z0,z1,z2,zf⟩:=zI hb04
 obtain ⟨y0,y1,y2,yf⟩:=zI hb14
 have e1:r1≠w.heap.size:=by omega
 have e2:w.heap.size≠r1:=by omega
 have e3:r1≠w.heap.size+1:=by omega
 have e4:w.heap.size+1≠r1:=by omega
 have HSQ:Hid (((moreA a seg l).getD seg []).length=q):=LH (by rw [HMA.out];simp [HSEG.out];have:=HM.out;have:=HP.out;have:=HQ.out;omega)
 have HWB:Hid ((moreA a seg l).length≤1000∧∀ s∈moreA a seg l,s.length≤1000000):=LH ⟨by have:=HLEN.out;have:=HNX.out;omega,fun s hs=>by
  rw [HMA.out] at hs
  rcases List.mem_or_eq_of_mem_set hs with h | h
  ·rw [← HA1.out] at h;rcases List.mem_append.1 h with h | h
   ·have:=HLS.out s h;omega
   ·rw [List.mem_singleton.1 h];simp
  ·rw [h,List.length_append];have:=HM.out;have:=HP.out;omega⟩
 clear hap ho hlo3 hlo4 hk4 hO4 hg4 hb04 hb14 hq hst1 hs5 hg5 HO3 HG3 HB03 HB13 HS HS3 HG2 hS5L
 have HFD:Hid (moreF a size full seg l=(full||decide (size<q)||decide (16<N)||decide (4096<(moreA a seg l).flatten.length))):=LH (by unfold moreF;rw [HSQ.out,HLEN.out])
 rcases hfl:full with _ | _
 ·by_cases hsz:size<q
  ·have hsd:decide (size<(q:Int))=true:=by simpa using hsz
   have HF:Hid (moreF a size full seg l=true):=LH (by rw [HFD.out,hsd];simp)
   subst hfl
   go_wp2
   refine bodyPost_ret (v:=.agg #[.slice (some ⟨r1,0,none⟩) N cv2,.int .i64 size,.bool true]) ?_ rfl ⟨some ⟨r1,0,none⟩,cv2,by rw [HLEN.out,HF.out],(HFIN.out true).1,by rw [HLEN.out];exact (HFIN.out true).2⟩
   rw [zT rfl];go_simp
  ·by_cases h16:16<N
   ·have h16':(16:Int)<N:=by omega
    have HF:Hid (moreF a size full seg l=true):=LH (by rw [HFD.out];simp [h16])
    subst hfl
    go_wp2
    refine bodyPost_ret (v:=.agg #[.slice (some ⟨r1,0,none⟩) N cv2,.int .i64 size,.bool true]) ?_ rfl ⟨some ⟨r1,0,none⟩,cv2,by rw [HLEN.out,HF.out],(HFIN.out true).1,by rw [HLEN.out];exact (HFIN.out true).2⟩
    rw [zT rfl];go_simp
   ·have h16':¬ (16:Int)<N:=by omega
    have HF:Hid (moreF a size full seg l=decide (4096<(moreA a seg l).flatten.length)):=LH (by
     rw [HFD.out,hfl]
     have:decide (size<(q:Int))=false:=by simpa using hsz
     rw [this]
     simp [h16])
    subst hfl
    have HWC:=LH (zXC (moreA a seg l) (some ⟨r1,0,none⟩) cv2 HWB.out.1 HWB.out.2 _ (by rw [HLEN.out];exact HW6.out.rows))
    rw [HLEN.out] at HWC
    obtain ⟨K,hK⟩:∃ K,(moreA a seg l).flatten.length=K:=⟨_,rfl⟩
    rw [hK] at HWC HF
    clear hK
    go_wp2_with fail
    refine HWC.out.mono ?_
    rintro e w5 ⟨rfl,rfl⟩
    replace HF:Hid (moreF a size false seg l=decide (4096<(K:Int))):=LH (by rw [HF.out,decide_eq_decide];omega)
    go_wp2
    refine bodyPost_ret (v:=.agg #[.slice (some ⟨r1,0,none⟩) N cv2,.int .i64 size,.bool (decide (4096<(K:Int)))]) ?_ rfl ⟨some ⟨r1,0,none⟩,cv2,by rw [HLEN.out,HF.out],(HFIN.out _).1,by rw [HLEN.out];exact (HFIN.out _).2⟩
    rw [zT rfl];go_simp
 ·have HF:Hid (moreF a size full seg l=true):=LH (by rw [HFD.out,hfl];simp)
  subst hfl
  go_wp2
  refine bodyPost_ret (v:=.agg #[.slice (some ⟨r1,0,none⟩) N cv2,.int .i64 size,.bool true]) ?_ rfl ⟨some ⟨r1,0,none⟩,cv2,by rw [HLEN.out,HF.out],(HFIN.out true).1,by rw [HLEN.out];exact (HFIN.out true).2⟩
  rw [zT rfl];go_simp
theorem zhI (a:List (List Int)) (A:Option Addr) (c:Nat) (size:Int) (full:Bool) (seg:Nat) (l:List Int) (Al:Option Addr) (cl:Nat) (hs:seg<a.length) (hla:a.length≤100) (hls:∀ s∈a,s.length≤100000) (hll:l.length≤100000) (w:World) {F:Nat→Prop} (hF:Foot (RowsU a (.slice A a.length c)) w F) (hl:SliceR 1 (.slice Al l.length cl) l.length (u64s l) w) :
    Calls Tryz.prog 196 #[.agg #[.slice A a.length c,.int .i64 size,.bool full],.int .i64 seg,.slice Al l.length cl] w fun e w'=>∃ A' c',e=.returned (.agg #[.slice A' (moreA a seg l).length c',.int .i64 size,.bool (moreF a size full seg l)])∧Grow w w'∧Foot (RowsU (moreA a seg l) (.slice A' (moreA a seg l).length c')) w' (NewF F w w'):=by
 obtain ⟨vs,hvF,hcs⟩:=RowsU.headsF hF
 have hvs:=hvF.now
 have hh:=zU w (.cells #[.slice A a.length c,.int .i64 size,.bool full] 197) (.cells #[.slice none 0 0,.int .i64 0,.bool false] 197)
 have HB0:=LH hh.1
 have HB1:=LH hh.2.1
 have HG:=LH hh.2.2
 have HV:=LH hvs
 have HL:=LH hl
 have HLS:=LH hls
 obtain ⟨n,hn⟩:∃ n,a.length=n:=⟨_,rfl⟩
 have HN:=LH hn
 have HSRC:=LH (RowsR.src (c:=c) (hvs.grow hh.2.2) (fun j u hu=>by
  obtain ⟨ad,e1,e2⟩:=hcs j u hu
  exact ⟨ad,e1,hh.2.2.cell e2 (fun h=>h)⟩))
 have hvl:=hvs.1
 obtain ⟨a1,ha1⟩:∃ a1,a=a1:=⟨_,rfl⟩
 have HA1:=LH ha1
 have h1l:a1.length=n:=by rw [← ha1];exact hn
 have hsl:seg<a1.length:=by rw [← ha1];exact hs
 have HMA:Hid (moreA a seg l=a1.set seg (a1[seg]++l)):=LH (by unfold moreA;rw [if_neg (by omega),ha1];congr 1;simp [hsl])
 have HD1:Hid (Foot (HdR a1 vs) w F):=LH (by rw [← ha1];exact hvF)
 have hm0:a1[seg].length≤100000:=by subst ha1;exact hls _ (List.getElem_mem hsl)
 have hsb:((seg:Int)==n)=false:=by rw [beq_eq_false_iff_ne];omega
 obtain ⟨A1,c1,hv1,hslr,_⟩:=HD1.out.now.2 seg hsl
 obtain ⟨s1,hs1⟩:∃ s1,a1[seg]=s1:=⟨_,rfl⟩
 rw [hs1] at HMA hv1 hslr hm0
 obtain ⟨m,hm⟩:∃ m,s1.length=m:=⟨_,rfl⟩
 obtain ⟨p,hp⟩:∃ p,l.length=p:=⟨_,rfl⟩
 have HM:=LH hm
 have HP:=LH hp
 rw [hm] at hv1 hslr hm0
 have HSL:=LH hslr
 have HV1:=LH hv1
 have H1L:=LH h1l
 have HLEN:Hid ((moreA a seg l).length=n):=LH (by rw [HMA.out,List.length_set];exact h1l)
 have hslN:(seg:Int)<((n:Nat):Int):=by omega
 have HVL:Hid (vs.length=n):=LH (by omega)
 have HSEG:=LH hsl
 rw [hn] at HB0 HB1 HG HSRC hla ⊢
 rw [hp] at HL hll ⊢
 clear hs1 hF hvF hh hvs hcs hl hls hv1 hslr hn hm hp h1l hs ha1 hvl
 go_enter Tryz.func196,Tryz.ntmps196
 go_wp2_with (at_builtin;refine zL _ rfl _ _ 29 29 rfl w.heap.size 111 (.slice none 0 0) 1 24 zwA zOB rfl (.slice none 0 0) 0 [] rfl (.slice A n c) n vs rfl ?_ ?c0 ?c1 ?c2 ?c3 ?c4;intro v' w2 hap;refine Hid.out ?_)
 case c0=>exact World.ownsRow_nil _ _ _ _
 case c1=>exact HSRC.out
 case c2=>simp only [maxLen];omega
 case c3=>omega
 case c4=>simp;omega
 refine LH ?_
 have ho:=hap.own
 simp only [Nat.zero_add,List.nil_append] at ho
 have hg2:=HG.out.grown hap.grew (by simp [Value.ownBlock])
 have hgx:=(Keep.refl NoB ((w.alloc (.cells #[.slice A n c,.int .i64 size,.bool full] 197)).alloc (.cells #[.slice none 0 0,.int .i64 0,.bool false] 197))).grown hap.grew (by simp [Value.ownBlock])
 have hb0:=Grow.heap hgx HB0.out
 have hb1:=Grow.heap hgx HB1.out
 have hge:∀ k,v'.ownBlock=some k→w.heap.size+2≤k:=fun k hk=>by
  rcases zo hap k hk with h | h
  ·simp [Value.ownBlock] at h
  ·have h2:k=w.heap.size+1+1:=by simpa using h
   omega
 obtain ⟨Av,cv,rfl,_⟩:=zJ ho
 have HO:=LH ho
 have HGE:=LH hge
 have HG2:=LH hg2
 have HB0':=LH hb0
 have HB1':=LH hb1
 have hw2s:=(gE hb1).1
 clear hap ho hg2 hgx hb0 hb1 hge
 clear HSRC HB0 HB1 HG
 obtain ⟨N,hN⟩:∃ N,n=N:=⟨_,rfl⟩
 rw [hN] at HO HLEN hslN ⊢
 obtain ⟨r1,k1,e1,hr1,_,hcells1⟩:=zMA HO.out (by omega)
 injection e1 with e1 _ e2
 subst e1;subst e2
 have q1:w2.cell? ⟨r1,seg,none⟩=some (.slice A1 m c1):=by simpa using hcells1 seg _ HV1.out
 have hr1n:=HGE.out r1 hr1
 have hr1l:=(HO.out.lt r1 hr1).2
 have HNX:=LH hN
 have HS2:=LH ((HSL.out.grow HG2.out).src (P:=Tryz.prog) (tx:=111) zw (zlA _))
 clear hcells1 hr1 hN
 go_wp2_with (at_builtin;refine zL _ rfl _ _ 111 111 rfl w2.heap.size 22 (.int .u64 0) 1 8 zw ze rfl (.slice none 0 0) 0 [] rfl (.slice A1 m c1) m (u64s s1) rfl ?_ ?d0 ?d1 ?d2 ?d3 (Nat.le_refl _);intro v' w3 hap;refine Hid.out ?_)
 case d0=>exact World.ownsRow_nil _ _ _ _
 case d1=>exact HS2.out
 case d2=>simp only [maxLen];omega
 case d3=>omega
 refine LH ?_
 have ho:=hap.own
 simp only [Nat.zero_add,List.nil_append] at ho
 have hgx:=(Keep.refl NoB w2).grown hap.grew (by simp [Value.ownBlock])
 obtain ⟨As,ks,rfl,_⟩:=zJ ho
 have HO3:=LH (zE HO.out hgx (fun _ _ h=>h))
 have HG3:=LH (HG2.out.grow hgx)
 have HB03:=LH (Grow.heap hgx HB0'.out)
 have HB13:=LH (Grow.heap hgx HB1'.out)
 have HS:=LH ho
 have hw23:=hgx.size
 have HS3:=LH ((HL.out.grow HG3.out).src (P:=Tryz.prog) (tx:=111) zw (zlA _))
 clear hap ho hgx HO HB0' HB1' HS2 q1
 go_wp2_with (at_builtin;refine zL _ rfl _ _ 111 111 rfl w2.heap.size 22 (.int .u64 0) 1 8 zw ze rfl (.slice As m ks) m (u64s s1) rfl (.slice Al p cl) p (u64s l) rfl ?_ ?f0 ?f1 ?f2 ?f3 ?f4;intro v' w4 hap;refine Hid.out ?_)
 case f0=>exact HS.out
 case f1=>exact HS3.out
 case f2=>simp only [maxLen];omega
 case f3=>omega
 case f4=>exact hw23
 refine LH ?_
 have ho:=hap.own
 obtain ⟨At,kt,rfl,_⟩:=zJ ho
 have hlo3:∀ k,(Value.slice As m ks).ownBlock=some k→w2.heap.size≤k:=fun k hk=>(HS.out.lt k hk).1
 have hlo4:∀ k,(Value.slice At (m+p) kt).ownBlock=some k→w2.heap.size≤k:=fun k hk=>(ho.lt k hk).1
 have hk4:Keep (fun k=>(Value.slice As m ks).ownBlock=some k) w3 w4:=(Keep.refl _ w3).grown hap.grew (fun k hk=>.inl hk)
 have hO4:=zE HO3.out hk4 (fun k hk e=>by cases hk;have h9:w2.heap.size≤r1:=hlo3 _ e;omega)
 have hg4:=HG3.out.trans hk4 (fun k hk=>.inr (by have:=hlo3 k hk;omega))
 have hb04:=(hk4.block w.heap.size (by have:=(gE HB03.out).1;exact this) (fun e=>by have:=hlo3 _ e;omega)).trans HB03.out
 have hb14:=(hk4.block (w.heap.size+1) (by have:=(gE HB13.out).1;exact this) (fun e=>by have:=hlo3 _ e;omega)).trans HB13.out
 obtain ⟨q,hq⟩:∃ q,m+p=q:=⟨_,rfl⟩
 have HQ:=LH hq
 rw [hq] at ho hlo4 ⊢
 have hqb:q≤200000:=by omega
 obtain ⟨u0,q3⟩:∃ u0,w4.cell? ⟨r1,seg,none⟩=some u0:=by
  obtain ⟨r9,k9,e9,_,_,hc9⟩:=zMA hO4 (by omega)
  injection e9 with e9 _ _
  injection e9 with e9
  injection e9 with e9
  subst e9
  have hl9:=hO4.1
  exact ⟨_,by simpa using hc9 seg _ (List.getElem?_eq_getElem (by omega))⟩
 have q3f:w4.frozen? ⟨r1,seg,none⟩=false:=hO4.frozenAt _
 have hst1:=hO4.stored seg (.slice At q kt)
 have hs5:=zE ho (zV r1 seg w4 (.slice At q kt)) (fun k hk e=>by have:=hlo4 k hk;omega)
 have hg5:=hg4.setCell (p:=⟨r1,seg,none⟩) (.inr (by show w.heap.size≤r1;omega)) (.slice At q kt)
 have hS5L:∀ k,(Value.slice At q kt).ownBlock=some k→w.heap.size+1<k:=fun k hk=>by have:=hlo4 k hk;omega
 have HRR:Hid (∀ W',Keep (fun k=>k=w.heap.size∨k=w.heap.size+1) (w4.setCell ⟨r1,seg,none⟩ (.slice At q kt)) W'→Grow w W'∧Foot (RowsU (moreA a seg l) (.slice (some ⟨r1,0,none⟩) N cv)) W' (NewF F w W')):=by
  refine LH (fun W' hk=>?_)
  have hgw:Grow w W':=hg5.trans hk (fun j hj=>.inr (by omega))
  have hsl2:(s1++l).length=q:=by rw [List.length_append,HM.out,HP.out,HQ.out]
  have hla2:(moreA a seg l).length=N:=HLEN.out
  rw [HMA.out] at hla2 ⊢
  have o2:=zE hs5 hk (fun k hk2 e=>by have:=hS5L k hk2;omega)
  have o1:=zE hst1.1 hk (fun k hk2 e=>by cases hk2;exact absurd e (show ¬ (r1=w.heap.size∨r1=w.heap.size+1) by omega))
  have hl1:=(o1.lt r1 rfl).2
  have hl2:∀ j,(Value.slice At q kt).ownBlock=some j→w.heap.size≤j∧j<W'.heap.size:=fun j hj=>⟨by have:=hS5L j hj;omega,(o2.lt j hj).2⟩
  refine ⟨hgw,(((HD1.out.grow hgw).and ((Foot.of_own o1).and (Foot.of_ownU o2))).imp (fun W2 hW=>?_)).mono (fun k hk=>?_) (fun k hk=>?_)⟩
  ·have hsr:SliceR 1 (.slice At (s1++l).length kt) (s1++l).length (u64s (s1++l)) W2:=by
     rw [hsl2]
     have:=hW.2.2.1
     rwa [show u64s (s1++l)=u64s s1++u64s l from by simp [u64s]]
   have hd:=hW.1.set seg HSEG.out (s1++l) _ kt hsr (by rw [hsl2];exact hW.2.2.2)
   have ho1:SliceR 1 (.slice (some ⟨r1,0,none⟩) (a1.set seg (s1++l)).length cv) (a1.set seg (s1++l)).length (vs.set seg (.slice At (s1++l).length kt)) W2:=by
    rw [hsl2,hla2]
    exact hW.2.1
   have:=RowsU.of_slice ho1 hd
   rw [hla2] at this
   exact this
  ·rcases hk with h | h
   ·exact Nat.lt_of_lt_of_le (HD1.out.lt h) hgw.size
   ·exact h.2
  ·rcases hk with h | h | h
   ·exact .inl h
   ·cases h;exact .inr ⟨show w.heap.size≤r1 by omega,hl1⟩
   ·exact .inr (hl2 k h)
 have HFIN:Hid (∀ B9:Bool,Grow w ((((((w4.setCell ⟨r1,seg,none⟩ (.slice At q kt)).setCell ⟨w.heap.size,0,none⟩ (.slice (some ⟨r1,0,none⟩) N cv)).setCell ⟨w.heap.size,2,none⟩ (.bool B9)).setCell ⟨w.heap.size+1,0,none⟩ (.slice (some ⟨r1,0,none⟩) N cv)).setCell ⟨w.heap.size+1,1,none⟩ (.int .i64 size)).setCell ⟨w.heap.size+1,2,none⟩ (.bool B9))∧Foot (RowsU (moreA a seg l) (.slice (some ⟨r1,0,none⟩) N cv)) ((((((w4.setCell ⟨r1,seg,none⟩ (.slice At q kt)).setCell ⟨w.heap.size,0,none⟩ (.slice (some ⟨r1,0,none⟩) N cv)).setCell ⟨w.heap.size,2,none⟩ (.bool B9)).setCell ⟨w.heap.size+1,0,none⟩ (.slice (some ⟨r1,0,none⟩) N cv)).setCell ⟨w.heap.size+1,1,none⟩ (.int .i64 size)).setCell ⟨w.heap.size+1,2,none⟩ (.bool B9)) (NewF F w ((((((w4.setCell ⟨r1,seg,none⟩ (.slice At q kt)).setCell ⟨w.heap.size,0,none⟩ (.slice (some ⟨r1,0,none⟩) N cv)).setCell ⟨w.heap.size,2,none⟩ (.bool B9)).setCell ⟨w.heap.size+1,0,none⟩ (.slice (some ⟨r1,0,none⟩) N cv)).setCell ⟨w.heap.size+1,1,none⟩ (.int .i64 size)).setCell ⟨w.heap.size+1,2,none⟩ (.bool B9)))):=LH (fun B9=>HRR.out _
  (((((((Keep.refl (fun k=>k=w.heap.size∨k=w.heap.size+1) (w4.setCell ⟨r1,seg,none⟩ (.slice At q kt))).setCell (p:=⟨w.heap.size,0,none⟩) (.inl (.inl rfl)) _).setCell (p:=⟨w.heap.size,2,none⟩) (.inl (.inl rfl)) _).setCell (p:=⟨w.heap.size+1,0,none⟩) (.inl (.inr rfl)) _).setCell (p:=⟨w.heap.size+1,1,none⟩) (.inl (.inr rfl)) _).setCell (p:=⟨w.heap.size+1,2,none⟩) (.inl (.inr rfl)) _)))
 have HW6:=LH (HRR.out ((w4.setCell ⟨r1,seg,none⟩ (.slice At q kt)).setCell ⟨w.heap.size,0,none⟩ (.slice (some ⟨r1,0,none⟩) N cv)) ((Keep.refl (fun k=>k=w.heap.size∨k=w.heap.size+1) (w4.setCell ⟨r1,seg,none⟩ (.slice At q kt))).setCell (p:=⟨w.heap.size,0,none⟩) (.inl (.inl rfl)) _)).2.now
 obtain ⟨z0,z1,z2,zf⟩:=zI hb04
 obtain ⟨y0,y1,y2,yf⟩:=zI hb14
 have e1:r1≠w.heap.size:=by omega
 have e2:w.heap.size≠r1:=by omega
 have e3:r1≠w.heap.size+1:=by omega
 have e4:w.heap.size+1≠r1:=by omega
 have HSQ:Hid (((moreA a seg l).getD seg []).length=q):=LH (by rw [HMA.out];simp [HSEG.out];have:=HM.out;have:=HP.out;have:=HQ.out;omega)
 have HWB:Hid ((moreA a seg l).length≤1000∧∀ s∈moreA a seg l,s.length≤1000000):=LH ⟨by have:=HLEN.out;have:=HNX.out;omega,fun s hs=>by
  rw [HMA.out] at hs
  rcases List.mem_or_eq_of_mem_set hs with h | h
  ·rw [← HA1.out] at h;have:=HLS.out s h;omega
  ·rw [h,List.length_append];have:=HM.out;have:=HP.out;omega⟩
 clear hap ho hlo3 hlo4 hk4 hO4 hg4 hb04 hb14 hq hst1 hs5 hg5 HO3 HG3 HB03 HB13 HS HS3 HG2 hS5L
 have HFD:Hid (moreF a size full seg l=(full||decide (size<q)||decide (16<N)||decide (4096<(moreA a seg l).flatten.length))):=LH (by unfold moreF;rw [HSQ.out,HLEN.out])
 rcases hfl:full with _ | _
 ·by_cases hsz:size<q
  ·have hsd:decide (size<(q:Int))=true:=by simpa using hsz
   have HF:Hid (moreF a size full seg l=true):=LH (by rw [HFD.out,hsd];simp)
   subst hfl
   go_wp2
   refine bodyPost_ret (v:=.agg #[.slice (some ⟨r1,0,none⟩) N cv,.int .i64 size,.bool true]) ?_ rfl ⟨some ⟨r1,0,none⟩,cv,by rw [HLEN.out,HF.out],(HFIN.out true).1,by rw [HLEN.out];exact (HFIN.out true).2⟩
   rw [zT rfl];go_simp
  ·by_cases h16:16<N
   ·have h16':(16:Int)<N:=by omega
    have HF:Hid (moreF a size full seg l=true):=LH (by rw [HFD.out];simp [h16])
    subst hfl
    go_wp2
    refine bodyPost_ret (v:=.agg #[.slice (some ⟨r1,0,none⟩) N cv,.int .i64 size,.bool true]) ?_ rfl ⟨some ⟨r1,0,none⟩,cv,by rw [HLEN.out,HF.out],(HFIN.out true).1,by rw [HLEN.out];exact (HFIN.out true).2⟩
    rw [zT rfl];go_simp
   ·have h16':¬ (16:Int)<N:=by omega
    have HF:Hid (moreF a size full seg l=decide (4096<(moreA a seg l).flatten.length)):=LH (by
     rw [HFD.out,hfl]
     have:decide (size<(q:Int))=false:=by simpa using hsz
     rw [this]
     simp [h16])
    subst hfl
    have HWC:=LH (zXC (moreA a seg l) (some ⟨r1,0,none⟩) cv HWB.out.1 HWB.out.2 _ (by rw [HLEN.out];exact HW6.out.rows))
    rw [HLEN.out] at HWC
    obtain ⟨K,hK⟩:∃ K,(moreA a seg l).flatten.length=K:=⟨_,rfl⟩
    rw [hK] at HWC HF
    clear hK
    go_wp2_with fail
    refine HWC.out.mono ?_
    rintro e w5 ⟨rfl,rfl⟩
    replace HF:Hid (moreF a size false seg l=decide (4096<(K:Int))):=LH (by rw [HF.out,decide_eq_decide];omega)
    go_wp2
    refine bodyPost_ret (v:=.agg #[.slice (some ⟨r1,0,none⟩) N cv,.int .i64 size,.bool (decide (4096<(K:Int)))]) ?_ rfl ⟨some ⟨r1,0,none⟩,cv,by rw [HLEN.out,HF.out],(HFIN.out _).1,by rw [HLEN.out];exact (HFIN.out _).2⟩
    rw [zT rfl];go_simp
 ·have HF:Hid (moreF a size full seg l=true):=LH (by rw [HFD.out,hfl];simp)
  subst hfl
  go_wp2
  refine bodyPost_ret (v:=.agg #[.slice (some ⟨r1,0,none⟩) N cv,.int .i64 size,.bool true]) ?_ rfl ⟨some ⟨r1,0,none⟩,cv,by rw [HLEN.out,HF.out],(HFIN.out true).1,by rw [HLEN.out];exact (HFIN.out true).2⟩
  rw [zT rfl];go_simp
theorem ziI:Tryz.prog.underlying 3=some (.int .i64):=by kernel_rfl
theorem zqK (m:Nat):(Builtin.zeroCells (Value.int .u64 0).cells m).toList=u64s (List.replicate m 0):=by
 apply List.ext_getElem (by simp [Builtin.zeroCells,u64s,Value.cells])
 intro j h1 h2
 simp [Builtin.zeroCells,u64s,Value.cells,Nat.mod_one]
theorem zhJ (w:World) (base:Nat) (ty:TypeId) (v:Value) (n:Nat) (xs:List Value) (hown:w.ownsRow base 22 1 v n xs) (m:Nat) (hnm:n+m≤10000000) (hbase:base≤w.heap.size) :
    ∃ v' w',(Builtin.append_ #[111,3] ty #[v,.int .i64 m]).run Tryz.prog w=.ok v' w'∧w'.ownsRow base 22 1 v' (n+m) (xs++u64s (List.replicate m 0))∧w.grownBy w' v.ownBlock∧(v'.ownBlock=v.ownBlock∨v'.ownBlock=some w.heap.size):=by
 obtain ⟨i,hi,hz,hsz,hby⟩:=info_parts ze
 have hw:IntKind.i64.wrap (m:Int)=m:=IntWalk.i64_in _ (by omega)
 have hw0:IntKind.i64.wrap 0=0:=IntWalk.i64_in _ (by omega)
 have hneg:¬ ((m:Int)<0):=by omega
 have hbig:¬ (281474976710656<(m:Int)*(i.bytes:Int)):=by rw [hby];omega
 have ht:=zw
 have hti:=ziI
 have hl:(u64s (List.replicate m 0)).length=m:=by simp [u64s]
 have hzz:=zqK m
 have hna:Builtin.zeroCells (Value.int .u64 0).cells m=(u64s (List.replicate m 0)).toArray:=by rw [← hzz]
 have hlen:(xs++u64s (List.replicate m 0)).length=(n+m)*1:=by rw [List.length_append,hown.1,hl];omega
 have grown : ∀ (old : Nat), old < n + m → ∀ (row : Option Nat),
     (w.drew.alloc (.cells ((xs++u64s (List.replicate m 0)).toArray++Builtin.zeroCells (Value.int .u64 0).cells (grownCap w (n+m) old 22-(n+m))) 22)).ownsRow base 22 1
      (.slice (some ⟨w.heap.size,0,none⟩) (n+m) (grownCap w (n+m) old 22)) (n+m) (xs++u64s (List.replicate m 0)) ∧
     w.grownBy (w.drew.alloc (.cells ((xs++u64s (List.replicate m 0)).toArray++Builtin.zeroCells (Value.int .u64 0).cells (grownCap w (n+m) old 22-(n+m))) 22)) row:=by
  intro old ho row
  have hge:=grownCap_ge w (n+m) old 22
  have hcm:grownCap w (n+m) old 22≤maxLen:=grownCap_le_maxLen w (n+m) old 22 (by simp [maxLen];omega)
  refine ⟨⟨hlen,.inr ⟨w.heap.size,_,_,rfl,hbase,heap_alloc_new w.drew _,hge,hcm,?_,?_⟩⟩,⟨rfl,rfl,rfl,by simp,fun k hk _=>Below.heap_alloc w.drew _ k hk⟩⟩
  ·rw [Array.size_append,List.size_toArray,size_zeroCells,hlen]
   simp only [Value.cells,List.size_toArray,List.length_cons,List.length_nil]
   omega
  ·rw [Array.toList_append,← hlen]
   exact List.take_left
 have runs:∀ (A:Option Addr) (cap:Nat),cap<n+m→(Builtin.firstCells 1 n (.slice A n cap)).run Tryz.prog w.drew=.ok xs.toArray w.drew→(Builtin.append_ #[111,3] ty #[.slice A n cap,.int .i64 m]).run Tryz.prog w =
     .ok (.slice (some ⟨w.heap.size,0,none⟩) (n+m) (grownCap w (n+m) cap 22)) (w.drew.alloc (.cells ((xs++u64s (List.replicate m 0)).toArray++Builtin.zeroCells (Value.int .u64 0).cells (grownCap w (n+m) cap 22-(n+m))) 22)):=by
  intro A cap hcap hfo
  have hn:¬ (n+m≤cap):=by omega
  have h63':¬ (9223372036854775807<((n:Int)+(m:Int))):=by omega
  have hfit:=growslice_fits (bytes:=i.bytes) hcap (by rw [hby];omega)
  have h48':¬ (281474976710656<Builtin.nextslicecap (n+m) cap*i.bytes):=by omega
  by_cases hm:m=0
  ·subst hm
   have hnl:u64s (List.replicate 0 0)=[]:=rfl
   rw [hnl]
   simp only [Nat.add_zero] at hn h63' h48' ⊢
   have h63'':¬ (9223372036854775807<(n:Int)):=by omega
   simp [Builtin.append_,run_underlying ht,run_underlying hti,sizeOf,typeInfo,zeroValue,hi,hz,hsz,asInt,asIntOf,hw0,hn,h63'',h48',Question.forced,hfo,newRow,grownCap]
  ·have hmz:¬ (m=0):=hm
   simp [Builtin.append_,run_underlying ht,run_underlying hti,sizeOf,typeInfo,zeroValue,hi,hz,hsz,asInt,asIntOf,hw,hneg,hbig,hn,h63',h48',Question.forced,hfo,newRow,grownCap,hmz,hna]
   generalize u64s (List.replicate m 0)=Z
   have e:∀ Y:Array Value,xs.toArray++(Z.toArray++Y)=(xs++Z).toArray++Y:=fun Y=>by apply Array.ext';simp
   rw [e]
 rcases hown.2 with ⟨rfl,rfl⟩ | ⟨g,cap,cur,rfl,hbg,hg,hnc,hcm,hcs,htake⟩
 ·have hx:xs=[]:=List.eq_nil_of_length_eq_zero (by simpa using hown.1)
  subst hx
  by_cases hm:m=0
  ·subst hm
   refine ⟨.slice none 0 0,w,?_,World.ownsRow_nil w base 22 1,⟨rfl,rfl,rfl,Nat.le_refl _,fun _ _ _=>rfl⟩,Or.inl rfl⟩
   simp [Builtin.append_,run_underlying ht,run_underlying hti,sizeOf,typeInfo,hi,asInt,asIntOf,hw0]
  ·have hgr:=grown 0 (by omega) (Value.ownBlock (.slice none 0 0))
   exact ⟨_,_,runs none 0 (by omega) (by simp [Builtin.firstCells]),hgr.1,hgr.2,Or.inr rfl⟩
 ·by_cases hroom:n+m≤cap
  ·have hfit:n+(u64s (List.replicate m 0)).length≤cur.size:=by rw [hl,hcs];omega
   have hst:=run_storeCells_at Tryz.prog g n 22 (u64s (List.replicate m 0)) 0 cur w hg (by simpa using hfit) (zlA _)
   simp only [Nat.add_zero] at hst
   refine ⟨_,_,?_,⟨hlen,.inr ⟨g,cap,_,rfl,hbg,setRow_heap w g cur (cur.toList.take n++u64s (List.replicate m 0)++cur.toList.drop (n+(u64s (List.replicate m 0)).length)).toArray 22 _ hg,hroom,hcm,?_,?_⟩⟩,⟨rfl,rfl,rfl,by simp,fun k _ hk=>setRow_other w g k _ (fun e=>hk (by simp [Value.ownBlock,e]))⟩,.inl rfl⟩
   ·by_cases hm:m=0
    ·subst hm
     have hnl:u64s (List.replicate 0 0)=[]:=rfl
     rw [hnl] at hst ⊢
     simp at hst
     simp [Builtin.append_,run_underlying ht,run_underlying hti,sizeOf,typeInfo,hi,hsz,asInt,asIntOf,hw0,hnc,Addr.add_lit,hst]
    ·simp [Builtin.append_,run_underlying ht,run_underlying hti,sizeOf,typeInfo,zeroValue,hi,hz,hsz,asInt,asIntOf,hw,hneg,hbig,hroom,hm,hna,Addr.add_lit,hst]
   ·simp only [List.size_toArray,List.length_append,List.length_take,List.length_drop,Array.length_toList]
    omega
   ·have h6:cur.toList.take n=xs:=by simpa using htake
    rw [h6,← hlen]
    exact List.take_left
  ·have holds:∀ j u,xs[j]? = some u→w.cell? ((⟨g,0,none⟩:Addr).add j)=some u:=hown.cells (g:=g) rfl
   have hgr:=grown cap (by omega) (Value.ownBlock (.slice (some ⟨g,0,none⟩) n cap))
   exact ⟨_,_,runs (some ⟨g,0,none⟩) cap (by omega) (run_firstCells_some (P:=Tryz.prog) w.drew 1 n _ n cap xs (by simpa using hown.1) (by simpa using holds)),hgr.1,hgr.2,Or.inr rfl⟩
theorem zsD {P:Program} {ops:Array Oper} {rest:List Oper} {o:Oper} {a:Act} {w:World} {Q:Exit→Act→World→Prop} (hgd:o.guard=none) (s x:Operand) (t tx:TypeId)
    (ho:o.op=.call { callee:=.builtin .append,args:=#[s,x],argTypes:=#[t,tx] }) (v xv:Value) (hv:a.eval s=v) (hx:a.eval x=xv) (v':Value) (w':World) (hr:(Builtin.append_ #[t,tx] o.type #[v,xv]).run P w=.ok v' w')
    (h:wpList P ops Q rest (a.put o.dst v') w'):wpList P ops Q (o :: rest) a w :=
 wpList_plain hgd fun _ hK=>by
  unfold Oper.wp execOp
  simp only [ho,resolve,invoke,builtin,Sem.run_bind,Sem.run_pure,Result.andThen_ok,List.map_toArray,List.map_cons,List.map_nil,hv,hx,hr]
  exact hK _ _ h
def needN (k:Int) (nw nb nk:Nat):Nat:=if k=1 then nw+nk else if k=2 then nw+nk+(nb+7)/8 else 0
theorem ziA (k s:Int) (A1 A2 A3:Option Addr) (nw nb nk c1 c2 c3:Nat) (h1:nw≤10000000) (h2:nb≤10000000) (h3:nk≤10000000) (w:World) :
    Calls Tryz.prog 193 #[.agg #[.int .i64 k,.int .i64 s,.slice A1 nw c1,.slice A2 nb c2,.slice A3 nk c3]] w fun e w'=>e=.returned (.int .i64 (needN k nw nb nk:Nat))∧Grow w w':=by
 have HG:=LH ((Keep.refl NoB w).alloc (.cells #[.int .i64 k,.int .i64 s,.slice A1 nw c1,.slice A2 nb c2,.slice A3 nk c3] 114))
 by_cases hk1:k=1
 ·subst hk1
  have hw:IntKind.i64.wrap ((nw:Int)+nk)=(nw:Int)+nk:=IntWalk.i64_in _ (by omega)
  go_enter Tryz.func193,Tryz.ntmps193
  go_wp2
  go_ret
  exact ⟨ret_i (by unfold needN;simp),HG.out⟩
 ·by_cases hk2:k=2
  ·subst hk2
   have hw:IntKind.i64.wrap ((nw:Int)+nk)=(nw:Int)+nk:=IntWalk.i64_in _ (by omega)
   have hw2:IntKind.i64.wrap ((nb:Int)+7)=(nb:Int)+7:=IntWalk.i64_in _ (by omega)
   have hw3:IntKind.i64.wrap ((nw:Int)+nk+((nb:Int)+7)/8)=(nw:Int)+nk+((nb:Int)+7)/8:=IntWalk.i64_in _ (by omega)
   have hw4:0≤(nb:Int)+7:=by omega
   go_enter Tryz.func193,Tryz.ntmps193
   go_wp2
   go_ret
   exact ⟨ret_i (by unfold needN;simp),HG.out⟩
  ·have hb1:(k==1)=false:=beq_eq_false_iff_ne.2 hk1
   have hb2:(k==2)=false:=beq_eq_false_iff_ne.2 hk2
   have HZ:Hid (((needN k nw nb nk:Nat):Int)=0):=LH (by unfold needN;rw [if_neg hk1,if_neg hk2];rfl)
   clear hk1 hk2
   go_enter Tryz.func193,Tryz.ntmps193
   go_wp2
   go_ret
   exact ⟨ret_i HZ.out.symm,HG.out⟩
def SomeW (w:World) (e:Ending) (w':World):Prop:=∃ x:Int,e=.returned (.int .u64 x)∧0≤x∧x≤18446744073709551615∧Grow w w'
theorem zPC (seg i:Int) (w:World):Calls Tryz.prog 197 #[.int .i64 seg,.int .i64 i] w (SomeW w):=by
 go_enter Tryz.func197,Tryz.ntmps197
 go_wp2_with fail
 refine (zLA ⟨3,i,0,0,0,0,seg,false⟩ _).mono ?_
 rintro e w' ⟨x,r,rfl,h0,h1,hg⟩
 have HG:=LH hg
 clear hg
 go_wp2
 go_ret
 exact ⟨x,rfl,h0,h1,HG.out⟩
theorem zbA (k s off:Int) (A1 A2 A3:Option Addr) (nw nb nk c1 c2 c3:Nat) (h1:nw≤10000000) (h2:nb≤10000000) (h3:nk≤10000000) (w:World) :
    Calls Tryz.prog 195 #[.agg #[.int .i64 k,.int .i64 s,.slice A1 nw c1,.slice A2 nb c2,.slice A3 nk c3],.int .i64 off] w (SomeW w):=by
 by_cases hk2:k=2
 ·subst hk2
  have hw:IntKind.i64.wrap ((nw:Int)+nk)=(nw:Int)+nk:=IntWalk.i64_in _ (by omega)
  have hw3:IntKind.i64.wrap ((nw:Int)+nk+nb)=(nw:Int)+nk+nb:=IntWalk.i64_in _ (by omega)
  go_enter Tryz.func195,Tryz.ntmps195
  go_wp2_with fail
  refine (zLA ⟨2,off,0,0,s,(nw:Int)+nk+nb,0,false⟩ _).mono ?_
  rintro e w' ⟨x,r,rfl,h0,h1,hg⟩
  have HG:=LH ((((Keep.refl NoB w).alloc _).alloc _).grow hg)
  clear hg
  go_wp2
  go_ret
  exact ⟨x,rfl,h0,h1,HG.out⟩
 ·have hb2:(k==2)=false:=beq_eq_false_iff_ne.2 hk2
  clear hk2
  go_enter Tryz.func195,Tryz.ntmps195
  go_wp2_with fail
  refine (zLA ⟨k,off,nw,nk,0,0,0,false⟩ _).mono ?_
  rintro e w' ⟨x,r,rfl,h0,h1,hg⟩
  have HG:=LH ((((Keep.refl NoB w).alloc _).alloc _).grow hg)
  clear hg
  go_wp2
  go_ret
  exact ⟨x,rfl,h0,h1,HG.out⟩
theorem zdH (A:Option Addr) (c:Nat) (l:List Int) (hl:l.length≤10000000) (hb:∀ x∈l,0≤x∧x≤255) (w:World) (hR:SliceR 1 (.slice A l.length c) l.length (u8s l) w) :
    Calls Tryz.prog 242 #[.slice A l.length c] w fun e w'=>∃ x:Int,e=.returned (.int .u64 x)∧0≤x∧x≤18446744073709551615∧w=w':=by
 have HR:=LH hR
 have HB:=LH hb
 clear hR hb
 rcases Nat.lt_or_ge 8 l.length with h8 | h8
 ·have h8':(8:Int)<l.length:=by omega
  go_enter Tryz.func242,Tryz.ntmps242
  go_wp2
  go_loopw [3,4] (fun a i wr=>wr=w∧∃ (k:Nat) (x:Int),k≤8∧i=.int .i64 ((k:Int)-1)∧a=.int .u64 x∧0≤x∧x≤18446744073709551615) (fun _ i _=>(intOf i+1).toNat)
  case atStart=>exact ⟨rfl,8,0,Nat.le_refl _,rfl,rfl,by omega,by omega⟩
  case round =>
   obtain ⟨rfl,k,x,hk,rfl,rfl,h0,h1⟩:=hrel
   by_cases hlt:1≤k
   ·obtain ⟨ad,rfl,hcell⟩:=SliceR.int_at (k:=.u8) HR.out (k-1) (by omega)
    have hcb:=HB.out _ (List.getElem_mem (show k-1<l.length by omega))
    obtain ⟨b,hbb⟩:∃ b,l[k-1]'(by omega)=b:=⟨_,rfl⟩
    rw [hbb] at hcell hcb
    obtain ⟨j,hj⟩:∃ j,k-1=j:=⟨_,rfl⟩
    rw [hj] at hcell
    have HJ:=LH hj
    have e1:(k:Int)-1=j:=by omega
    rw [e1]
    have hlt2:(j:Int)<l.length:=by omega
    have hw2:IntKind.i64.wrap ((j:Int)-1)=(j:Int)-1:=IntWalk.i64_in _ (by omega)
    have hjm:j≤8:=by omega
    clear hbb hj e1 hlt
    go_wp2
    go_roundw
    case rel=>exact ⟨trivial,j,_,hjm,rfl,rfl,(zmB _).1,(zmB _).2⟩
    case measure=>simp [intOf]
   ·obtain rfl:k=0:=by omega
    go_wp2
    go_ret
    exact ⟨x,rfl,h0,h1,rfl⟩
 ·have h8':¬ (8:Int)<l.length:=by omega
  have hw:IntKind.i64.wrap ((l.length:Int)-1)=(l.length:Int)-1:=IntWalk.i64_in _ (by omega)
  go_enter Tryz.func242,Tryz.ntmps242
  go_wp2
  go_loopw [3,4] (fun a i wr=>wr=w∧∃ (k:Nat) (x:Int),k≤l.length∧i=.int .i64 ((k:Int)-1)∧a=.int .u64 x∧0≤x∧x≤18446744073709551615) (fun _ i _=>(intOf i+1).toNat)
  case atStart=>exact ⟨rfl,l.length,0,Nat.le_refl _,rfl,rfl,by omega,by omega⟩
  case round =>
   obtain ⟨rfl,k,x,hk,rfl,rfl,h0,h1⟩:=hrel
   by_cases hlt:1≤k
   ·obtain ⟨ad,rfl,hcell⟩:=SliceR.int_at (k:=.u8) HR.out (k-1) (by omega)
    have hcb:=HB.out _ (List.getElem_mem (show k-1<l.length by omega))
    obtain ⟨b,hbb⟩:∃ b,l[k-1]'(by omega)=b:=⟨_,rfl⟩
    rw [hbb] at hcell hcb
    obtain ⟨j,hj⟩:∃ j,k-1=j:=⟨_,rfl⟩
    rw [hj] at hcell
    have HJ:=LH hj
    have e1:(k:Int)-1=j:=by omega
    rw [e1]
    have hlt2:(j:Int)<l.length:=by omega
    have hw2:IntKind.i64.wrap ((j:Int)-1)=(j:Int)-1:=IntWalk.i64_in _ (by omega)
    have hjm:j≤l.length:=by omega
    clear hbb hj e1 hlt
    go_wp2
    go_roundw
    case rel=>exact ⟨trivial,j,_,hjm,rfl,rfl,(zmB _).1,(zmB _).2⟩
    case measure=>simp [intOf]
   ·obtain rfl:k=0:=by omega
    go_wp2
    go_ret
    exact ⟨x,rfl,h0,h1,rfl⟩
theorem SliceR.sub8 {A:Option Addr} {c:Nat} {l:List Int} {w:World} (h:SliceR 1 (.slice A l.length c) l.length (u8s l) w) (K L:Nat) (hK:K+L≤l.length) (c':Nat) (hc:L≤c') (hc0:A=none→c'=0):SliceR 1 (.slice (A.map fun ad=>ad.add K) ((l.drop K).take L).length c') ((l.drop K).take L).length (u8s ((l.drop K).take L)) w:=by
 obtain ⟨A',c2,e,hcc,hl,hA,hq⟩:=h
 injection e with e1 e2 e3
 subst e1;subst e3
 have hpl:((l.drop K).take L).length=L:=by simp;omega
 refine ⟨_,_,by rw [hpl],by rw [hpl];exact hc,by simp [u8s],fun h=>?_,fun j u hu=>?_⟩
 ·cases A with
  | none=>exact hc0 rfl
  | some ad=>simp at h
 ·have hj:j<L:=by have:=(List.getElem?_eq_some_iff.1 hu).1;simp [u8s] at this;omega
  have hu2:(u8s l)[K+j]? = some u:=by
   rw [← hu]
   simp [u8s,List.getElem?_take,hj]
  obtain ⟨ad,rfl,hcell⟩:=hq _ _ hu2
  exact ⟨_,rfl,by rw [Addr.add_add];exact hcell⟩
theorem zkF {ad:Addr} {c n:Nat} {l:List Int} {w:World} (hn:l.length=n) (hn2:n≤100000) (h:SliceR 1 (.slice (some ad) n c) n (u8s l) w) (hb:∀ x∈l,0≤x∧x≤255) (K L:Nat) (hK:K+L≤n) (hc:L≤c-K) :
    Calls Tryz.prog 242 #[.slice (some (ad.add K)) L (c-K)] w fun e w'=>∃ x:Int,e=.returned (.int .u64 x)∧0≤x∧x≤18446744073709551615∧w=w':=by
 subst hn
 have hs:=SliceR.sub8 h K L hK (c-K) hc (fun e=>by cases e)
 have hl:((l.drop K).take L).length=L:=by simp;omega
 have:=zdH (some (ad.add K)) (c-K) ((l.drop K).take L) (by rw [hl];omega) (fun x hx=>hb x (List.mem_of_mem_drop (List.mem_of_mem_take hx))) w hs
 rw [hl] at this
 exact this
def okW (l:List Int):Prop:=∀ x∈l,0≤x∧x≤18446744073709551615
theorem okW.snoc {l:List Int} {x:Int} (h:okW l) (h0:0≤x) (h1:x≤18446744073709551615):okW (l++[x]):=fun y hy=>by
 rcases List.mem_append.1 hy with e | e
 ·exact h y e
 ·rw [List.mem_singleton.1 e];exact ⟨h0,h1⟩
theorem zxA (k s:Int) (ws bs:List Int) (nk:Nat) (A1 A2 A3:Option Addr) (c1 c2 c3:Nat) (h1:ws.length≤100000) (h2:bs.length≤100000) (h3:nk≤100000) (hw1:okW ws) (hb1:∀ x∈bs,0≤x∧x≤255) (w:World) (hW:SliceR 1 (.slice A1 ws.length c1) ws.length (u64s ws) w) (hB:SliceR 1 (.slice A2 bs.length c2) bs.length (u8s bs) w) :
    Calls Tryz.prog 198 #[.agg #[.int .i64 k,.int .i64 s,.slice A1 ws.length c1,.slice A2 bs.length c2,.slice A3 nk c3]] w fun e w'=>∃ l A c,e=.returned (.slice A l.length c)∧l.length=ws.length+(bs.length+7)/8+nk∧okW l∧Grow w w'∧SliceR 1 (.slice A l.length c) l.length (u64s l) w':=by
 have hga:=(Keep.refl NoB w).alloc (.cells #[.int .i64 k,.int .i64 s,.slice A1 ws.length c1,.slice A2 bs.length c2,.slice A3 nk c3] 114)
 have HC:=LH (heap_alloc_new w (.cells #[.int .i64 k,.int .i64 s,.slice A1 ws.length c1,.slice A2 bs.length c2,.slice A3 nk c3] 114))
 have HG:=LH hga
 have HSW:=LH ((hW.grow hga).src (P:=Tryz.prog) (tx:=111) zw (zlA _))
 have HB:=LH (hB.grow hga)
 have HOLD:=LH hB
 have HW1:=LH hw1
 have HB1:=LH hb1
 obtain ⟨nw,hnw⟩:∃ nw,ws.length=nw:=⟨_,rfl⟩
 obtain ⟨nb,hnb⟩:∃ nb,bs.length=nb:=⟨_,rfl⟩
 have hcb:nb≤c2:=by
  obtain ⟨_,_,e,h,_⟩:=hB
  injection e with _ _ e
  omega
 have hA0:A2=none→c2=0:=by
  obtain ⟨_,_,e,_,_,h,_⟩:=hB
  injection e with e1 _ e
  rw [e1,e];exact h
 have HA0:=LH hA0
 have HNW:=LH hnw
 have HNB:=LH hnb
 rw [hnw] at HC HG HSW HB h1 ⊢
 rw [hnb] at HC HG HSW HB HOLD h2 ⊢
 clear hga hW hB hw1 hb1 hnw hnb hA0
 go_enter Tryz.func198,Tryz.ntmps198
 go_wp2_with (at_builtin;refine zL _ rfl _ _ 111 111 rfl w.heap.size 22 (.int .u64 0) 1 8 zw ze rfl (.slice none 0 0) 0 [] rfl (.slice A1 nw c1) nw (u64s ws) rfl ?_ ?c0 ?c1 ?c2 ?c3 ?c4;intro v' w2 hap;refine Hid.out ?_)
 case c0=>exact World.ownsRow_nil _ _ _ _
 case c1=>exact HSW.out
 case c2=>simp only [maxLen];omega
 case c3=>omega
 case c4=>simp
 refine LH ?_
 have ho:=hap.own
 simp only [Nat.zero_add,List.nil_append] at ho
 have hgx:=HG.out.grown hap.grew (by simp [Value.ownBlock])
 have hgy:=(Keep.refl NoB (w.alloc (.cells #[.int .i64 k,.int .i64 s,.slice A1 nw c1,.slice A2 nb c2,.slice A3 nk c3] 114))).grown hap.grew (by simp [Value.ownBlock])
 have HC2:=LH (Grow.heap hgy HC.out)
 have HB2:=LH (HB.out.grow hgy)
 obtain ⟨Av,cv,rfl,_⟩:=zJ ho
 have HO:=LH ho
 have HG2:=LH hgx
 have hge:∀ j,(Value.slice Av nw cv).ownBlock=some j→j≠w.heap.size:=fun j hj e=>by
  rcases zo hap j hj with h | h
  ·simp [Value.ownBlock] at h
  ·have:j=w.heap.size+1:=by simpa using h
   omega
 have HGE:=LH hge
 clear hap ho hgx hgy HC HB HG hge HSW
 go_wp2
 go_loopw [3,4] (fun a i wr=>∃ (j:Nat) (l:List Int) (A:Option Addr) (c:Nat),8*j≤nb+7∧i=.int .i64 (8*j:Nat)∧a=.slice A (nw+j) c∧Hid (l.length=nw+j∧okW l∧wr.ownsRow w.heap.size 22 1 (.slice A (nw+j) c) (nw+j) (u64s l)∧Grow w wr∧wr.heap[w.heap.size]? = some (.cells #[.int .i64 k,.int .i64 s,.slice A1 nw c1,.slice A2 nb c2,.slice A3 nk c3] 114 (0,0))∧SliceR 1 (.slice A2 nb c2) nb (u8s bs) wr∧∀ j2,(Value.slice A (nw+j) c).ownBlock=some j2→j2≠w.heap.size)) (fun _ i _=>nb-(intOf i).toNat)
 case atStart=>exact ⟨0,ws,Av,cv,by omega,rfl,rfl,HNW.out,HW1.out,HO.out,HG2.out,HC2.out,HB2.out,HGE.out⟩
 case round =>
  clear HO HG2 HC2 HB2 HGE
  obtain ⟨j,l,A,c,hj,rfl,rfl,HH⟩:=hrel
  obtain ⟨d0,d1,d2,d3,d4,df⟩:=zA HH.out.2.2.2.2.1
  obtain ⟨K,hK⟩:∃ K,8*j=K:=⟨_,rfl⟩
  rw [hK]
  have HK:=LH hK
  by_cases hlt:K<nb
  ·have hlt':(K:Int)<nb:=by omega
   have hw8:IntKind.i64.wrap ((K:Int)+8)=(K:Int)+8:=IntWalk.i64_in _ (by omega)
   obtain ⟨ad,rfl⟩:∃ ad,A2=some ad:=by
    cases A2 with
    | none=>have:=HA0.out rfl;omega
    | some ad=>exact ⟨ad,rfl⟩
   have hne:¬ (c2=K):=by omega
   clear hK
   by_cases hq:nb<K+8
   ·have hq':(nb:Int)<(K:Int)+8:=by omega
    have hin:0≤(K:Int)∧(K:Int)≤nb:=by omega
    have hin2:(nb:Int)≤c2:=by omega
    have HGT:=LH (zkF (l:=bs) HNB.out h2 HH.out.2.2.2.2.2.1 HB1.out K (nb-K) (by omega) (by omega))
    go_wp2_with fail
    refine HGT.out.mono ?_
    rintro e w5 ⟨x,rfl,hx0,hx1,rfl⟩
    have HX:Hid (0≤x∧x≤18446744073709551615):=LH ⟨hx0,hx1⟩
    clear hx0 hx1
    go_wp2_with (at_builtin;refine zL _ rfl _ _ 111 111 rfl w.heap.size 22 (.int .u64 0) 1 8 zw ze rfl (.slice A (nw+j) c) (nw+j) (u64s l) rfl (.slice (some ⟨wr.heap.size,0,none⟩) 1 1) 1 [.int .u64 x] rfl ?_ ?e0 ?e1 ?e2 ?e3 ?e4;intro v' w6 hap;refine Hid.out ?_)
    case e0=>exact zE HH.out.2.2.1 ((Keep.refl NoB _).alloc _) (fun _ _ h=>h)
    case e1=>exact Src.ofSlice _ zw ⟨wr.heap.size,0,none⟩ 1 1 _ rfl (World.news_of_block (cs:=#[.int .u64 x]) (t:=22) (fr:=(0,0)) (heap_alloc_new wr _)) (by simp [Value.oneCell'])
    case e2=>simp only [maxLen];omega
    case e3=>omega
    case e4=>have:=HH.out.2.2.2.1.size;simp;omega
    refine LH ?_
    obtain ⟨A',c',rfl,_⟩:=zJ hap.own
    have hkk:Keep (fun j2=>(Value.slice A (nw+j) c).ownBlock=some j2) wr w6:=((Keep.refl _ wr).alloc _).grown hap.grew (fun k hk=>.inl hk)
    have hbl:=(gE HH.out.2.2.2.2.1).1
    have HH6:Hid ((l++[x]).length=nw+(j+1)∧okW (l++[x])∧w6.ownsRow w.heap.size 22 1 (.slice A' (nw+(j+1)) c') (nw+(j+1)) (u64s (l++[x]))∧Grow w w6∧w6.heap[w.heap.size]? = some (.cells #[.int .i64 k,.int .i64 s,.slice A1 nw c1,.slice (some ad) nb c2,.slice A3 nk c3] 114 (0,0))∧SliceR 1 (.slice (some ad) nb c2) nb (u8s bs) w6∧∀ j2,(Value.slice A' (nw+(j+1)) c').ownBlock=some j2→j2≠w.heap.size):=by
     refine LH ⟨by rw [List.length_append,HH.out.1];rfl,HH.out.2.1.snoc HX.out.1 HX.out.2,?_,HH.out.2.2.2.1.trans hkk (fun i hi=>.inr (HH.out.2.2.1.lt i hi).1),(hkk.block _ hbl (fun e=>HH.out.2.2.2.2.2.2 _ e rfl)).trans HH.out.2.2.2.2.1,HOLD.out.grow (HH.out.2.2.2.1.trans hkk (fun i hi=>.inr (HH.out.2.2.1.lt i hi).1)),fun j2 hj2=>?_⟩
     ·have:=hap.own
      rwa [show u64s (l++[x])=u64s l++[.int .u64 x] from by simp [u64s]]
     ·rcases zo hap j2 hj2 with h | h
      ·exact HH.out.2.2.2.2.2.2 j2 h
      ·have:j2=wr.heap.size+1:=by simpa using h
       omega
    clear hap hkk d0 d1 d2 d3 d4 df
    go_wp2
    go_roundw
    case rel=>exact ⟨j+1,l++[x],A',c',by have:=HK.out;omega,by rw [show 8*(j+1)=K+8 from by have:=HK.out;omega];go_num,rfl,HH6.out⟩
    case measure=>simp [intOf];omega
   ·have hq':¬ (nb:Int)<(K:Int)+8:=by omega
    have hin:0≤(K:Int)∧(K:Int)≤(K:Int)+8:=by omega
    have hin2:(K:Int)+8≤c2:=by omega
    have HGT:=LH (zkF (l:=bs) HNB.out h2 HH.out.2.2.2.2.2.1 HB1.out K 8 (by omega) (by omega))
    go_wp2_with fail
    refine HGT.out.mono ?_
    rintro e w5 ⟨x,rfl,hx0,hx1,rfl⟩
    have HX:Hid (0≤x∧x≤18446744073709551615):=LH ⟨hx0,hx1⟩
    clear hx0 hx1
    go_wp2_with (at_builtin;refine zL _ rfl _ _ 111 111 rfl w.heap.size 22 (.int .u64 0) 1 8 zw ze rfl (.slice A (nw+j) c) (nw+j) (u64s l) rfl (.slice (some ⟨wr.heap.size,0,none⟩) 1 1) 1 [.int .u64 x] rfl ?_ ?e0 ?e1 ?e2 ?e3 ?e4;intro v' w6 hap;refine Hid.out ?_)
    case e0=>exact zE HH.out.2.2.1 ((Keep.refl NoB _).alloc _) (fun _ _ h=>h)
    case e1=>exact Src.ofSlice _ zw ⟨wr.heap.size,0,none⟩ 1 1 _ rfl (World.news_of_block (cs:=#[.int .u64 x]) (t:=22) (fr:=(0,0)) (heap_alloc_new wr _)) (by simp [Value.oneCell'])
    case e2=>simp only [maxLen];omega
    case e3=>omega
    case e4=>have:=HH.out.2.2.2.1.size;simp;omega
    refine LH ?_
    obtain ⟨A',c',rfl,_⟩:=zJ hap.own
    have hkk:Keep (fun j2=>(Value.slice A (nw+j) c).ownBlock=some j2) wr w6:=((Keep.refl _ wr).alloc _).grown hap.grew (fun k hk=>.inl hk)
    have hbl:=(gE HH.out.2.2.2.2.1).1
    have HH6:Hid ((l++[x]).length=nw+(j+1)∧okW (l++[x])∧w6.ownsRow w.heap.size 22 1 (.slice A' (nw+(j+1)) c') (nw+(j+1)) (u64s (l++[x]))∧Grow w w6∧w6.heap[w.heap.size]? = some (.cells #[.int .i64 k,.int .i64 s,.slice A1 nw c1,.slice (some ad) nb c2,.slice A3 nk c3] 114 (0,0))∧SliceR 1 (.slice (some ad) nb c2) nb (u8s bs) w6∧∀ j2,(Value.slice A' (nw+(j+1)) c').ownBlock=some j2→j2≠w.heap.size):=by
     refine LH ⟨by rw [List.length_append,HH.out.1];rfl,HH.out.2.1.snoc HX.out.1 HX.out.2,?_,HH.out.2.2.2.1.trans hkk (fun i hi=>.inr (HH.out.2.2.1.lt i hi).1),(hkk.block _ hbl (fun e=>HH.out.2.2.2.2.2.2 _ e rfl)).trans HH.out.2.2.2.2.1,HOLD.out.grow (HH.out.2.2.2.1.trans hkk (fun i hi=>.inr (HH.out.2.2.1.lt i hi).1)),fun j2 hj2=>?_⟩
     ·have:=hap.own
      rwa [show u64s (l++[x])=u64s l++[.int .u64 x] from by simp [u64s]]
     ·rcases zo hap j2 hj2 with h | h
      ·exact HH.out.2.2.2.2.2.2 j2 h
      ·have:j2=wr.heap.size+1:=by simpa using h
       omega
    clear hap hkk d0 d1 d2 d3 d4 df
    go_wp2
    go_roundw
    case rel=>exact ⟨j+1,l++[x],A',c',by have:=HK.out;omega,by rw [show 8*(j+1)=K+8 from by have:=HK.out;omega];go_num,rfl,HH6.out⟩
    case measure=>simp [intOf];omega
  ·have hlt':¬ ((K:Int)<nb):=by omega
   have HJ:Hid (j=(nb+7)/8):=LH (by omega)
   clear hK
   obtain ⟨v',w',hr,ho,hg,hat⟩:=zhJ wr w.heap.size 111 (.slice A (nw+j) c) (nw+j) (u64s l) HH.out.2.2.1 nk (by omega) HH.out.2.2.2.1.size
   have HR:=LH hr
   have HFIN:Hid ((l++List.replicate nk 0).length=nw+(nb+7)/8+nk∧okW (l++List.replicate nk 0)∧Grow w w'∧∃ A c,v'=.slice A (l++List.replicate nk 0).length c∧SliceR 1 (.slice A (l++List.replicate nk 0).length c) (l++List.replicate nk 0).length (u64s (l++List.replicate nk 0)) w'):=by
    have hl:(l++List.replicate nk (0:Int)).length=nw+j+nk:=by rw [List.length_append,HH.out.1,List.length_replicate]
    have hkk:Keep (fun j2=>(Value.slice A (nw+j) c).ownBlock=some j2) wr w':=(Keep.refl _ wr).grown hg (fun k hk=>.inl hk)
    obtain ⟨A9,c9,rfl,_⟩:=zJ ho
    refine LH ⟨by rw [hl,HJ.out],fun x hx=>?_,HH.out.2.2.2.1.trans hkk (fun i hi=>.inr (HH.out.2.2.1.lt i hi).1),A9,c9,by rw [hl],?_⟩
    ·rcases List.mem_append.1 hx with e | e
     ·exact HH.out.2.1 x e
     ·rw [List.eq_of_mem_replicate e];omega
    ·rw [hl]
     have:=SliceR.of_own ho
     rwa [show u64s (l++List.replicate nk 0)=u64s l++u64s (List.replicate nk 0) from by simp [u64s]]
   clear hr ho hg hat
   obtain ⟨A9,c9,hv9,hs9⟩:=HFIN.out.2.2.2
   subst hv9
   have HS9:=LH hs9
   clear hs9
   go_wp2_with (at_builtin;refine zsD rfl _ _ _ _ rfl _ _ rfl rfl _ w' HR.out ?_)
   go_ret
   exact ⟨_,A9,c9,by simp,HFIN.out.1,HFIN.out.2.1,HFIN.out.2.2.1,HS9.out⟩
end Go.Proofs.YtfkcpaahdlkcdaaGreat

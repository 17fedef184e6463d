import Derived.Test.YtfkcpaahdlkcdaaGreatRRecvReads12
set_option linter.unusedSimpArgs false
set_option linter.unusedVariables false
set_option maxRecDepth 100000
set_option maxHeartbeats 16000000
namespace Go.Proofs.YtfkcpaahdlkcdaaGreat
open Go.RowKit
def moreA (a:List (List Int)) (seg:Nat) (l:List Int):List (List Int):=(if seg=a.length then a++[[]] else a).set seg ((if seg=a.length then a++[[]] else a).getD seg []++l)
def moreF (a:List (List Int)) (size:Int) (full:Bool) (seg:Nat) (l:List Int):Bool :=
 full||decide (size<((moreA a seg l).getD seg []).length)||decide (16<(moreA a seg l).length)||decide (4096<(moreA a seg l).flatten.length)
theorem HdR.push {a:List (List Int)} {vs:List Value} {w:World} (h:HdR a vs w):HdR (a++[[]]) (vs++[.slice none 0 0]) w:=by
 refine ⟨by simp [h.1],fun i hi=>?_⟩
 by_cases e:i<a.length
 ·obtain ⟨A,c,h1,h2,h9⟩:=h.2 i e
  have h3:=h.1
  exact ⟨A,c,by rw [List.getElem?_append_left (by omega)];simpa [List.getElem_append_left e] using h1,by simpa [List.getElem_append_left e] using h2,by simpa [List.getElem_append_left e] using h9⟩
 ·have h3:=h.1
  obtain rfl:i=a.length:=by simp at hi;omega
  have h4:(vs++[Value.slice none 0 0])[a.length]? = some (.slice none 0 0):=by rw [← h3];simp
  exact ⟨none,0,by rw [h4];simp,by simpa [u64s] using zZ 1 w,fun _ _ e=>by cases e⟩
theorem zUJ (a:List (List Int)) (A:Option Addr) (c:Nat) (size:Int) (full:Bool) (seg:Nat) (l:List Int) (Al:Option Addr) (cl:Nat) (hs:seg=a.length) (hla:a.length≤100) (hls:∀ s∈a,s.length≤100000) (hll:l.length≤100000) (w:World) {F:Nat→Prop} (hF:Foot (RowsU a (.slice A a.length c)) w F) (hl:SliceR 1 (.slice Al l.length cl) l.length (u64s l) w) :
    Calls Tryz.prog 196 #[.agg #[.slice A a.length c,.int .i64 size,.bool full],.int .i64 seg,.slice Al l.length cl] w fun e w'=>∃ A' c',e=.returned (.agg #[.slice A' (moreA a seg l).length c',.int .i64 size,.bool (moreF a size full seg l)])∧Grow w w'∧Foot (RowsU (moreA a seg l) (.slice A' (moreA a seg l).length c')) w' (NewF F w w'):=by
 obtain ⟨vs,hvF,hcs⟩:=RowsU.headsF hF
 have hvs:=hvF.now
 have hh:=zU w (.cells #[.slice A a.length c,.int .i64 size,.bool full] 197) (.cells #[qI,qJ,qL] 197)
 have HB0:=LH hh.1
 have HB1:=LH hh.2.1
 have HG:=LH hh.2.2
 have HV:=LH hvs
 have HL:=LH hl
 have HLS:=LH hls
 obtain ⟨n,hn⟩:∃ n,a.length=n:=⟨_,rfl⟩
 have HN:=LH hn
 have HSRC:=LH (RowsR.src (c:=c) (hvs.grow hh.2.2) (fun j u hu=>by
  obtain ⟨ad,e1,e2⟩:=hcs j u hu
  exact ⟨ad,e1,hh.2.2.cell e2 (fun h=>h)⟩))
 have hvl:=hvs.1
 obtain ⟨a1,ha1⟩:∃ a1,a++[[]]=a1:=⟨_,rfl⟩
 have HA1:=LH ha1
 have h1l:a1.length=n+1:=by rw [← ha1];simp [hn]
 have hsl:seg<a1.length:=by omega
 have HMA:Hid (moreA a seg l=a1.set seg (a1[seg]++l)):=LH (by unfold moreA;rw [if_pos hs,ha1];congr 1;simp [hsl])
 have HD1:Hid (Foot (HdR a1 (vs++[.slice none 0 0])) w F):=LH (by rw [← ha1];exact hvF.imp (fun _ h=>h.push))
 have hm0:a1[seg].length≤100000:=by subst ha1;subst hs;simp
 have hsn:(seg:Int)=n:=by omega
 have hsb:((seg:Int)==n)=true:=by rw [beq_iff_eq];exact hsn
 have HSN:=LH hsn
 obtain ⟨A1,c1,hv1,hslr,_⟩:=HD1.out.now.2 seg hsl
 obtain ⟨s1,hs1⟩:∃ s1,a1[seg]=s1:=⟨_,rfl⟩
 rw [hs1] at HMA hv1 hslr hm0
 obtain ⟨m,hm⟩:∃ m,s1.length=m:=⟨_,rfl⟩
 obtain ⟨p,hp⟩:∃ p,l.length=p:=⟨_,rfl⟩
 have HM:=LH hm
 have HP:=LH hp
 rw [hm] at hv1 hslr hm0
 have HSL:=LH hslr
 have HV1:=LH hv1
 have H1L:=LH h1l
 have HLEN:Hid ((moreA a seg l).length=n+1):=LH (by rw [HMA.out,List.length_set];exact h1l)
 have hslN:(seg:Int)<((n+1:Nat):Int):=by omega
 have HVL:Hid (vs.length=n):=LH (by omega)
 have HSEG:=LH hsl
 rw [hn] at HB0 HB1 HG HSRC hla ⊢
 rw [hp] at HL hll ⊢
 clear hs1 hF hvF hh hvs hcs hl hls hv1 hslr hn hm hp h1l hs ha1 hvl hsn
 go_enter Tryz.func196,Tryz.ntmps196
 go_wp2_with (at_builtin;refine zL _ rfl _ _ 29 29 rfl w.heap.size 111 (.slice none 0 0) 1 24 zBB zRB rfl (.slice none 0 0) 0 [] rfl (.slice A n c) n vs rfl ?_ ?c0 ?c1 ?c2 ?c3 ?c4;intro v' w2 hap;refine Hid.out ?_)
 case c0=>exact World.ownsRow_nil _ _ _ _
 case c1=>exact HSRC.out
 case c2=>simp only [maxLen];omega
 case c3=>omega
 case c4=>simp;omega
 refine LH ?_
 have ho:=hap.own
 simp only [Nat.zero_add,List.nil_append] at ho
 have hg2:=HG.out.grown hap.grew (by simp [Value.ownBlock])
 have hgx:=(Keep.refl NoB ((w.alloc (.cells #[.slice A n c,.int .i64 size,.bool full] 197)).alloc (.cells #[qI,qJ,qL] 197))).grown hap.grew (by simp [Value.ownBlock])
 have hb0:=Grow.heap hgx HB0.out
 have hb1:=Grow.heap hgx HB1.out
 have hge:∀ k,v'.ownBlock=some k→w.heap.size+2≤k:=fun k hk=>by
  rcases zu hap k hk with h | h
  ·simp [Value.ownBlock] at h
  ·have h2:k=w.heap.size+1+1:=by simpa using h
   omega
 obtain ⟨Av,cv,rfl,_⟩:=zK ho
 have HO:=LH ho
 have HGE:=LH hge
 have HG2:=LH hg2
 have HB0':=LH hb0
 have HB1':=LH hb1
 have hw2s:=(gE hb1).1
 clear hap ho hg2 hgx hb0 hb1 hge
 clear HSRC HB0 HB1 HG
 go_wp2_with (at_builtin;refine zL _ rfl _ _ 29 29 rfl w.heap.size 111 (.slice none 0 0) 1 24 zBB zRB rfl (.slice Av n cv) n vs rfl (.slice (some ⟨w2.heap.size,0,none⟩) 1 1) 1 [.slice none 0 0] rfl ?_ ?b0 ?b1 ?b2 ?b3 ?b4;intro v' w2b hap;refine Hid.out ?_)
 case b0=>exact zF HO.out ((Keep.refl NoB w2).alloc _) (fun _ _ h=>h)
 case b1=>exact Src.ofSlice _ zBB ⟨w2.heap.size,0,none⟩ 1 1 _ rfl (World.news_of_block (cs:=#[qI]) (t:=111) (fr:=(0,0)) (heap_alloc_new w2 _)) (by simp [Value.oneCell'])
 case b2=>simp only [maxLen];omega
 case b3=>omega
 case b4=>simp;omega
 refine LH ?_
 have ho:=hap.own
 have hkb:Keep (fun k=>(Value.slice Av n cv).ownBlock=some k) w2 w2b:=((Keep.refl (fun k=>(Value.slice Av n cv).ownBlock=some k) w2).alloc _).grown hap.grew (fun k hk=>.inl hk)
 have hg2:=HG2.out.trans hkb (fun k hk=>.inr (by have:=HGE.out k hk;omega))
 have hge:∀ k,v'.ownBlock=some k→w.heap.size+2≤k:=fun k hk=>by
  rcases zu hap k hk with h | h
  ·exact HGE.out k h
  ·have:k=w2.heap.size+1:=by simpa using h
   omega
 have hb0:=(hkb.block w.heap.size (by omega) (fun e=>by have:=HGE.out _ e;omega)).trans HB0'.out
 have hb1:=(hkb.block (w.heap.size+1) (by omega) (fun e=>by have:=HGE.out _ e;omega)).trans HB1'.out
 have hw3s:=hkb.size
 obtain ⟨Av2,cv2,rfl,_⟩:=zK ho
 replace HO:=LH ho
 replace HGE:=LH hge
 replace HG2:=LH hg2
 replace HB0':=LH hb0
 replace HB1':=LH hb1
 replace hw2s:w.heap.size+1<w2b.heap.size:=by omega
 clear hap ho hkb hg2 hge hb0 hb1 hw3s
 obtain ⟨N,hN⟩:∃ N,n+1=N:=⟨_,rfl⟩
 rw [hN] at HO HLEN hslN ⊢
 obtain ⟨r1,k1,e1,hr1,_,hcells1⟩:=zMA HO.out (by omega)
 injection e1 with e1 _ e2
 subst e1;subst e2
 have q1:w2b.cell? ⟨r1,seg,none⟩=some (.slice A1 m c1):=by simpa using hcells1 seg _ HV1.out
 have hr1n:=HGE.out r1 hr1
 have hr1l:=(HO.out.lt r1 hr1).2
 have HNX:=LH hN
 have HS2:=LH ((HSL.out.grow HG2.out).src (P:=Tryz.prog) (tx:=111) zx (zsA _))
 clear hcells1 hr1 hN
 go_wp2_with (at_builtin;refine zL _ rfl _ _ 111 111 rfl w2b.heap.size 22 (.int .u64 0) 1 8 zx zj rfl (.slice none 0 0) 0 [] rfl (.slice A1 m c1) m (u64s s1) rfl ?_ ?d0 ?d1 ?d2 ?d3 (Nat.le_refl _);intro v' w3 hap;refine Hid.out ?_)
 case d0=>exact World.ownsRow_nil _ _ _ _
 case d1=>exact HS2.out
 case d2=>simp only [maxLen];omega
 case d3=>omega
 refine LH ?_
 have ho:=hap.own
 simp only [Nat.zero_add,List.nil_append] at ho
 have hgx:=(Keep.refl NoB w2b).grown hap.grew (by simp [Value.ownBlock])
 obtain ⟨As,ks,rfl,_⟩:=zK ho
 have HO3:=LH (zF HO.out hgx (fun _ _ h=>h))
 have HG3:=LH (HG2.out.grow hgx)
 have HB03:=LH (Grow.heap hgx HB0'.out)
 have HB13:=LH (Grow.heap hgx HB1'.out)
 have HS:=LH ho
 have hw23:=hgx.size
 have HS3:=LH ((HL.out.grow HG3.out).src (P:=Tryz.prog) (tx:=111) zx (zsA _))
 clear hap ho hgx HO HB0' HB1' HS2 q1
 go_wp2_with (at_builtin;refine zL _ rfl _ _ 111 111 rfl w2b.heap.size 22 (.int .u64 0) 1 8 zx zj rfl (.slice As m ks) m (u64s s1) rfl (.slice Al p cl) p (u64s l) rfl ?_ ?f0 ?f1 ?f2 ?f3 ?f4;intro v' w4 hap;refine Hid.out ?_)
 case f0=>exact HS.out
 case f1=>exact HS3.out
 case f2=>simp only [maxLen];omega
 case f3=>omega
 case f4=>exact hw23
 refine LH ?_
 have ho:=hap.own
 obtain ⟨At,kt,rfl,_⟩:=zK ho
 have hlo3:∀ k,(Value.slice As m ks).ownBlock=some k→w2b.heap.size≤k:=fun k hk=>(HS.out.lt k hk).1
 have hlo4:∀ k,(Value.slice At (m+p) kt).ownBlock=some k→w2b.heap.size≤k:=fun k hk=>(ho.lt k hk).1
 have hk4:Keep (fun k=>(Value.slice As m ks).ownBlock=some k) w3 w4:=(Keep.refl _ w3).grown hap.grew (fun k hk=>.inl hk)
 have hO4:=zF HO3.out hk4 (fun k hk e=>by cases hk;have h9:w2b.heap.size≤r1:=hlo3 _ e;omega)
 have hg4:=HG3.out.trans hk4 (fun k hk=>.inr (by have:=hlo3 k hk;omega))
 have hb04:=(hk4.block w.heap.size (by have:=(gE HB03.out).1;exact this) (fun e=>by have:=hlo3 _ e;omega)).trans HB03.out
 have hb14:=(hk4.block (w.heap.size+1) (by have:=(gE HB13.out).1;exact this) (fun e=>by have:=hlo3 _ e;omega)).trans HB13.out
 obtain ⟨q,hq⟩:∃ q,m+p=q:=⟨_,rfl⟩
 have HQ:=LH hq
 rw [hq] at ho hlo4 ⊢
 have hqb:q≤200000:=by omega
 obtain ⟨u0,q3⟩:∃ u0,w4.cell? ⟨r1,seg,none⟩=some u0:=by
  obtain ⟨r9,k9,e9,_,_,hc9⟩:=zMA hO4 (by omega)
  injection e9 with e9 _ _
  injection e9 with e9
  injection e9 with e9
  subst e9
  have hl9:=hO4.1
  exact ⟨_,by simpa using hc9 seg _ (List.getElem?_eq_getElem (by omega))⟩
 have q3f:w4.frozen? ⟨r1,seg,none⟩=false:=hO4.frozenAt _
 have hst1:=hO4.stored seg (.slice At q kt)
 have hs5:=zF ho (zV r1 seg w4 (.slice At q kt)) (fun k hk e=>by have:=hlo4 k hk;omega)
 have hg5:=hg4.setCell (p:=⟨r1,seg,none⟩) (.inr (by show w.heap.size≤r1;omega)) (.slice At q kt)
 have hS5L:∀ k,(Value.slice At q kt).ownBlock=some k→w.heap.size+1<k:=fun k hk=>by have:=hlo4 k hk;omega
 have HRR:Hid (∀ W',Keep (fun k=>k=w.heap.size∨k=w.heap.size+1) (w4.setCell ⟨r1,seg,none⟩ (.slice At q kt)) W'→Grow w W'∧Foot (RowsU (moreA a seg l) (.slice (some ⟨r1,0,none⟩) N cv2)) W' (NewF F w W')):=by
  refine LH (fun W' hk=>?_)
  have hgw:Grow w W':=hg5.trans hk (fun j hj=>.inr (by omega))
  have hsl2:(s1++l).length=q:=by rw [List.length_append,HM.out,HP.out,HQ.out]
  have hla2:(moreA a seg l).length=N:=HLEN.out
  rw [HMA.out] at hla2 ⊢
  have o2:=zF hs5 hk (fun k hk2 e=>by have:=hS5L k hk2;omega)
  have o1:=zF hst1.1 hk (fun k hk2 e=>by cases hk2;exact absurd e (show ¬ (r1=w.heap.size∨r1=w.heap.size+1) by omega))
  have hl1:=(o1.lt r1 rfl).2
  have hl2:∀ j,(Value.slice At q kt).ownBlock=some j→w.heap.size≤j∧j<W'.heap.size:=fun j hj=>⟨by have:=hS5L j hj;omega,(o2.lt j hj).2⟩
  refine ⟨hgw,(((HD1.out.grow hgw).and ((Foot.of_own o1).and (Foot.of_ownU o2))).imp (fun W2 hW=>?_)).mono (fun k hk=>?_) (fun k hk=>?_)⟩
  ·have hsr:SliceR 1 (.slice At (s1++l).length kt) (s1++l).length (u64s (s1++l)) W2:=by
     rw [hsl2]
     have:=hW.2.2.1
     rwa [show u64s (s1++l)=u64s s1++u64s l from by simp [u64s]]
   have hd:=hW.1.set seg HSEG.out (s1++l) _ kt hsr (by rw [hsl2];exact hW.2.2.2)
   have ho1:SliceR 1 (.slice (some ⟨r1,0,none⟩) (a1.set seg (s1++l)).length cv2) (a1.set seg (s1++l)).length ((vs++[Value.slice none 0 0]).set seg (.slice At (s1++l).length kt)) W2:=by
    rw [hsl2,hla2]
    exact hW.2.1
   have:=RowsU.of_slice ho1 hd
   rw [hla2] at this
   exact this
  ·rcases hk with h | h
   ·exact Nat.lt_of_lt_of_le (HD1.out.lt h) hgw.size
   ·exact h.2
  ·rcases hk with h | h | h
   ·exact .inl h
   ·cases h;exact .inr ⟨show w.heap.size≤r1 by omega,hl1⟩
   ·exact .inr (hl2 k h)
 have HFIN:Hid (∀ B9:Bool,Grow w ((((((w4.setCell ⟨r1,seg,none⟩ (.slice At q kt)).setCell ⟨w.heap.size,0,none⟩ (.slice (some ⟨r1,0,none⟩) N cv2)).setCell ⟨w.heap.size,2,none⟩ (.bool B9)).setCell ⟨w.heap.size+1,0,none⟩ (.slice (some ⟨r1,0,none⟩) N cv2)).setCell ⟨w.heap.size+1,1,none⟩ (.int .i64 size)).setCell ⟨w.heap.size+1,2,none⟩ (.bool B9))∧Foot (RowsU (moreA a seg l) (.slice (some ⟨r1,0,none⟩) N cv2)) ((((((w4.setCell ⟨r1,seg,none⟩ (.slice At q kt)).setCell ⟨w.heap.size,0,none⟩ (.slice (some ⟨r1,0,none⟩) N cv2)).setCell ⟨w.heap.size,2,none⟩ (.bool B9)).setCell ⟨w.heap.size+1,0,none⟩ (.slice (some ⟨r1,0,none⟩) N cv2)).setCell ⟨w.heap.size+1,1,none⟩ (.int .i64 size)).setCell ⟨w.heap.size+1,2,none⟩ (.bool B9)) (NewF F w ((((((w4.setCell ⟨r1,seg,none⟩ (.slice At q kt)).setCell ⟨w.heap.size,0,none⟩ (.slice (some ⟨r1,0,none⟩) N cv2)).setCell ⟨w.heap.size,2,none⟩ (.bool B9)).setCell ⟨w.heap.size+1,0,none⟩ (.slice (some ⟨r1,0,none⟩) N cv2)).setCell ⟨w.heap.size+1,1,none⟩ (.int .i64 size)).setCell ⟨w.heap.size+1,2,none⟩ (.bool B9)))):=LH (fun B9=>HRR.out _
  (((((((Keep.refl (fun k=>k=w.heap.size∨k=w.heap.size+1) (w4.setCell ⟨r1,seg,none⟩ (.slice At q kt))).setCell (p:=⟨w.heap.size,0,none⟩) (.inl (.inl rfl)) _).setCell (p:=⟨w.heap.size,2,none⟩) (.inl (.inl rfl)) _).setCell (p:=⟨w.heap.size+1,0,none⟩) (.inl (.inr rfl)) _).setCell (p:=⟨w.heap.size+1,1,none⟩) (.inl (.inr rfl)) _).setCell (p:=⟨w.heap.size+1,2,none⟩) (.inl (.inr rfl)) _)))
 have HW6:=LH (HRR.out ((w4.setCell ⟨r1,seg,none⟩ (.slice At q kt)).setCell ⟨w.heap.size,0,none⟩ (.slice (some ⟨r1,0,none⟩) N cv2)) ((Keep.refl (fun k=>k=w.heap.size∨k=w.heap.size+1) (w4.setCell ⟨r1,seg,none⟩ (.slice At q kt))).setCell (p:=⟨w.heap.size,0,none⟩) (.inl (.inl rfl)) _)).2.now
 obtain ⟨z0,z1,z2,zf⟩:=zI hb04
 obtain ⟨y0,y1,y2,yf⟩:=zI hb14
 have e1:r1≠w.heap.size:=by omega
 have e2:w.heap.size≠r1:=by omega
 have e3:r1≠w.heap.size+1:=by omega
 have e4:w.heap.size+1≠r1:=by omega
 have HSQ:Hid (((moreA a seg l).getD seg []).length=q):=LH (by rw [HMA.out];simp [HSEG.out];have:=HM.out;have:=HP.out;have:=HQ.out;omega)
 have HWB:Hid ((moreA a seg l).length≤1000∧∀ s∈moreA a seg l,s.length≤1000000):=LH ⟨by have:=HLEN.out;have:=HNX.out;omega,fun s hs=>by
  rw [HMA.out] at hs
  rcases List.mem_or_eq_of_mem_set hs with h | h
  ·rw [← HA1.out] at h;rcases List.mem_append.1 h with h | h
   ·have:=HLS.out s h;omega
   ·rw [List.mem_singleton.1 h];simp
  ·rw [h,List.length_append];have:=HM.out;have:=HP.out;omega⟩
 clear hap ho hlo3 hlo4 hk4 hO4 hg4 hb04 hb14 hq hst1 hs5 hg5 HO3 HG3 HB03 HB13 HS HS3 HG2 hS5L
 have HFD:Hid (moreF a size full seg l=(full||decide (size<q)||decide (16<N)||decide (4096<(moreA a seg l).flatten.length))):=LH (by unfold moreF;rw [HSQ.out,HLEN.out])
 rcases hfl:full with _ | _
 ·by_cases hsz:size<q
  ·have hsd:decide (size<(q:Int))=true:=by simpa using hsz
   have HF:Hid (moreF a size full seg l=true):=LH (by rw [HFD.out,hsd];simp)
   subst hfl
   go_wp2
   refine bodyPost_ret (v:=.agg #[.slice (some ⟨r1,0,none⟩) N cv2,.int .i64 size,.bool true]) ?_ rfl ⟨some ⟨r1,0,none⟩,cv2,by rw [HLEN.out,HF.out],(HFIN.out true).1,by rw [HLEN.out];exact (HFIN.out true).2⟩
   rw [zO rfl];go_simp
  ·by_cases h16:16<N
   ·have h16':(16:Int)<N:=by omega
    have HF:Hid (moreF a size full seg l=true):=LH (by rw [HFD.out];simp [h16])
    subst hfl
    go_wp2
    refine bodyPost_ret (v:=.agg #[.slice (some ⟨r1,0,none⟩) N cv2,.int .i64 size,.bool true]) ?_ rfl ⟨some ⟨r1,0,none⟩,cv2,by rw [HLEN.out,HF.out],(HFIN.out true).1,by rw [HLEN.out];exact (HFIN.out true).2⟩
    rw [zO rfl];go_simp
   ·have h16':¬ (16:Int)<N:=by omega
    have HF:Hid (moreF a size full seg l=decide (4096<(moreA a seg l).flatten.length)):=LH (by
     rw [HFD.out,hfl]
     have:decide (size<(q:Int))=false:=by simpa using hsz
     rw [this]
     simp [h16])
    subst hfl
    have HWC:=LH (zcC (moreA a seg l) (some ⟨r1,0,none⟩) cv2 HWB.out.1 HWB.out.2 _ (by rw [HLEN.out];exact HW6.out.rows))
    rw [HLEN.out] at HWC
    obtain ⟨K,hK⟩:∃ K,(moreA a seg l).flatten.length=K:=⟨_,rfl⟩
    rw [hK] at HWC HF
    clear hK
    go_wp2_with fail
    refine HWC.out.mono ?_
    rintro e w5 ⟨rfl,rfl⟩
    replace HF:Hid (moreF a size false seg l=decide (4096<(K:Int))):=LH (by rw [HF.out,decide_eq_decide];omega)
    go_wp2
    refine bodyPost_ret (v:=.agg #[.slice (some ⟨r1,0,none⟩) N cv2,.int .i64 size,.bool (decide (4096<(K:Int)))]) ?_ rfl ⟨some ⟨r1,0,none⟩,cv2,by rw [HLEN.out,HF.out],(HFIN.out _).1,by rw [HLEN.out];exact (HFIN.out _).2⟩
    rw [zO rfl];go_simp
 ·have HF:Hid (moreF a size full seg l=true):=LH (by rw [HFD.out,hfl];simp)
  subst hfl
  go_wp2
  refine bodyPost_ret (v:=.agg #[.slice (some ⟨r1,0,none⟩) N cv2,.int .i64 size,.bool true]) ?_ rfl ⟨some ⟨r1,0,none⟩,cv2,by rw [HLEN.out,HF.out],(HFIN.out true).1,by rw [HLEN.out];exact (HFIN.out true).2⟩
  rw [zO rfl];go_simp
theorem zVJ (a:List (List Int)) (A:Option Addr) (c:Nat) (size:Int) (full:Bool) (seg:Nat) (l:List Int) (Al:Option Addr) (cl:Nat) (hs:seg<a.length) (hla:a.length≤100) (hls:∀ s∈a,s.length≤100000) (hll:l.length≤100000) (w:World) {F:Nat→Prop} (hF:Foot (RowsU a (.slice A a.length c)) w F) (hl:SliceR 1 (.slice Al l.length cl) l.length (u64s l) w) :
    Calls Tryz.prog 196 #[.agg #[.slice A a.length c,.int .i64 size,.bool full],.int .i64 seg,.slice Al l.length cl] w fun e w'=>∃ A' c',e=.returned (.agg #[.slice A' (moreA a seg l).length c',.int .i64 size,.bool (moreF a size full seg l)])∧Grow w w'∧Foot (RowsU (moreA a seg l) (.slice A' (moreA a seg l).length c')) w' (NewF F w w'):=by
 obtain ⟨vs,hvF,hcs⟩:=RowsU.headsF hF
 have hvs:=hvF.now
 have hh:=zU w (.cells #[.slice A a.length c,.int .i64 size,.bool full] 197) (.cells #[qI,qJ,qL] 197)
 have HB0:=LH hh.1
 have HB1:=LH hh.2.1
 have HG:=LH hh.2.2
 have HV:=LH hvs
 have HL:=LH hl
 have HLS:=LH hls
 obtain ⟨n,hn⟩:∃ n,a.length=n:=⟨_,rfl⟩
 have HN:=LH hn
 have HSRC:=LH (RowsR.src (c:=c) (hvs.grow hh.2.2) (fun j u hu=>by
  obtain ⟨ad,e1,e2⟩:=hcs j u hu
  exact ⟨ad,e1,hh.2.2.cell e2 (fun h=>h)⟩))
 have hvl:=hvs.1
 obtain ⟨a1,ha1⟩:∃ a1,a=a1:=⟨_,rfl⟩
 have HA1:=LH ha1
 have h1l:a1.length=n:=by rw [← ha1];exact hn
 have hsl:seg<a1.length:=by rw [← ha1];exact hs
 have HMA:Hid (moreA a seg l=a1.set seg (a1[seg]++l)):=LH (by unfold moreA;rw [if_neg (by omega),ha1];congr 1;simp [hsl])
 have HD1:Hid (Foot (HdR a1 vs) w F):=LH (by rw [← ha1];exact hvF)
 have hm0:a1[seg].length≤100000:=by subst ha1;exact hls _ (List.getElem_mem hsl)
 have hsb:((seg:Int)==n)=false:=by rw [beq_eq_false_iff_ne];omega
 obtain ⟨A1,c1,hv1,hslr,_⟩:=HD1.out.now.2 seg hsl
 obtain ⟨s1,hs1⟩:∃ s1,a1[seg]=s1:=⟨_,rfl⟩
 rw [hs1] at HMA hv1 hslr hm0
 obtain ⟨m,hm⟩:∃ m,s1.length=m:=⟨_,rfl⟩
 obtain ⟨p,hp⟩:∃ p,l.length=p:=⟨_,rfl⟩
 have HM:=LH hm
 have HP:=LH hp
 rw [hm] at hv1 hslr hm0
 have HSL:=LH hslr
 have HV1:=LH hv1
 have H1L:=LH h1l
 have HLEN:Hid ((moreA a seg l).length=n):=LH (by rw [HMA.out,List.length_set];exact h1l)
 have hslN:(seg:Int)<((n:Nat):Int):=by omega
 have HVL:Hid (vs.length=n):=LH (by omega)
 have HSEG:=LH hsl
 rw [hn] at HB0 HB1 HG HSRC hla ⊢
 rw [hp] at HL hll ⊢
 clear hs1 hF hvF hh hvs hcs hl hls hv1 hslr hn hm hp h1l hs ha1 hvl
 go_enter Tryz.func196,Tryz.ntmps196
 go_wp2_with (at_builtin;refine zL _ rfl _ _ 29 29 rfl w.heap.size 111 (.slice none 0 0) 1 24 zBB zRB rfl (.slice none 0 0) 0 [] rfl (.slice A n c) n vs rfl ?_ ?c0 ?c1 ?c2 ?c3 ?c4;intro v' w2 hap;refine Hid.out ?_)
 case c0=>exact World.ownsRow_nil _ _ _ _
 case c1=>exact HSRC.out
 case c2=>simp only [maxLen];omega
 case c3=>omega
 case c4=>simp;omega
 refine LH ?_
 have ho:=hap.own
 simp only [Nat.zero_add,List.nil_append] at ho
 have hg2:=HG.out.grown hap.grew (by simp [Value.ownBlock])
 have hgx:=(Keep.refl NoB ((w.alloc (.cells #[.slice A n c,.int .i64 size,.bool full] 197)).alloc (.cells #[qI,qJ,qL] 197))).grown hap.grew (by simp [Value.ownBlock])
 have hb0:=Grow.heap hgx HB0.out
 have hb1:=Grow.heap hgx HB1.out
 have hge:∀ k,v'.ownBlock=some k→w.heap.size+2≤k:=fun k hk=>by
  rcases zu hap k hk with h | h
  ·simp [Value.ownBlock] at h
  ·have h2:k=w.heap.size+1+1:=by simpa using h
   omega
 obtain ⟨Av,cv,rfl,_⟩:=zK ho
 have HO:=LH ho
 have HGE:=LH hge
 have HG2:=LH hg2
 have HB0':=LH hb0
 have HB1':=LH hb1
 have hw2s:=(gE hb1).1
 clear hap ho hg2 hgx hb0 hb1 hge
 clear HSRC HB0 HB1 HG
 obtain ⟨N,hN⟩:∃ N,n=N:=⟨_,rfl⟩
 rw [hN] at HO HLEN hslN ⊢
 obtain ⟨r1,k1,e1,hr1,_,hcells1⟩:=zMA HO.out (by omega)
 injection e1 with e1 _ e2
 subst e1;subst e2
 have q1:w2.cell? ⟨r1,seg,none⟩=some (.slice A1 m c1):=by simpa using hcells1 seg _ HV1.out
 have hr1n:=HGE.out r1 hr1
 have hr1l:=(HO.out.lt r1 hr1).2
 have HNX:=LH hN
 have HS2:=LH ((HSL.out.grow HG2.out).src (P:=Tryz.prog) (tx:=111) zx (zsA _))
 clear hcells1 hr1 hN
 go_wp2_with (at_builtin;refine zL _ rfl _ _ 111 111 rfl w2.heap.size 22 (.int .u64 0) 1 8 zx zj rfl (.slice none 0 0) 0 [] rfl (.slice A1 m c1) m (u64s s1) rfl ?_ ?d0 ?d1 ?d2 ?d3 (Nat.le_refl _);intro v' w3 hap;refine Hid.out ?_)
 case d0=>exact World.ownsRow_nil _ _ _ _
 case d1=>exact HS2.out
 case d2=>simp only [maxLen];omega
 case d3=>omega
 refine LH ?_
 have ho:=hap.own
 simp only [Nat.zero_add,List.nil_append] at ho
 have hgx:=(Keep.refl NoB w2).grown hap.grew (by simp [Value.ownBlock])
 obtain ⟨As,ks,rfl,_⟩:=zK ho
 have HO3:=LH (zF HO.out hgx (fun _ _ h=>h))
 have HG3:=LH (HG2.out.grow hgx)
 have HB03:=LH (Grow.heap hgx HB0'.out)
 have HB13:=LH (Grow.heap hgx HB1'.out)
 have HS:=LH ho
 have hw23:=hgx.size
 have HS3:=LH ((HL.out.grow HG3.out).src (P:=Tryz.prog) (tx:=111) zx (zsA _))
 clear hap ho hgx HO HB0' HB1' HS2 q1
 go_wp2_with (at_builtin;refine zL _ rfl _ _ 111 111 rfl w2.heap.size 22 (.int .u64 0) 1 8 zx zj rfl (.slice As m ks) m (u64s s1) rfl (.slice Al p cl) p (u64s l) rfl ?_ ?f0 ?f1 ?f2 ?f3 ?f4;intro v' w4 hap;refine Hid.out ?_)
 case f0=>exact HS.out
 case f1=>exact HS3.out
 case f2=>simp only [maxLen];omega
 case f3=>omega
 case f4=>exact hw23
 refine LH ?_
 have ho:=hap.own
 obtain ⟨At,kt,rfl,_⟩:=zK ho
 have hlo3:∀ k,(Value.slice As m ks).ownBlock=some k→w2.heap.size≤k:=fun k hk=>(HS.out.lt k hk).1
 have hlo4:∀ k,(Value.slice At (m+p) kt).ownBlock=some k→w2.heap.size≤k:=fun k hk=>(ho.lt k hk).1
 have hk4:Keep (fun k=>(Value.slice As m ks).ownBlock=some k) w3 w4:=(Keep.refl _ w3).grown hap.grew (fun k hk=>.inl hk)
 have hO4:=zF HO3.out hk4 (fun k hk e=>by cases hk;have h9:w2.heap.size≤r1:=hlo3 _ e;omega)
 have hg4:=HG3.out.trans hk4 (fun k hk=>.inr (by have:=hlo3 k hk;omega))
 have hb04:=(hk4.block w.heap.size (by have:=(gE HB03.out).1;exact this) (fun e=>by have:=hlo3 _ e;omega)).trans HB03.out
 have hb14:=(hk4.block (w.heap.size+1) (by have:=(gE HB13.out).1;exact this) (fun e=>by have:=hlo3 _ e;omega)).trans HB13.out
 obtain ⟨q,hq⟩:∃ q,m+p=q:=⟨_,rfl⟩
 have HQ:=LH hq
 rw [hq] at ho hlo4 ⊢
 have hqb:q≤200000:=by omega
 obtain ⟨u0,q3⟩:∃ u0,w4.cell? ⟨r1,seg,none⟩=some u0:=by
  obtain ⟨r9,k9,e9,_,_,hc9⟩:=zMA hO4 (by omega)
  injection e9 with e9 _ _
  injection e9 with e9
  injection e9 with e9
  subst e9
  have hl9:=hO4.1
  exact ⟨_,by simpa using hc9 seg _ (List.getElem?_eq_getElem (by omega))⟩
 have q3f:w4.frozen? ⟨r1,seg,none⟩=false:=hO4.frozenAt _
 have hst1:=hO4.stored seg (.slice At q kt)
 have hs5:=zF ho (zV r1 seg w4 (.slice At q kt)) (fun k hk e=>by have:=hlo4 k hk;omega)
 have hg5:=hg4.setCell (p:=⟨r1,seg,none⟩) (.inr (by show w.heap.size≤r1;omega)) (.slice At q kt)
 have hS5L:∀ k,(Value.slice At q kt).ownBlock=some k→w.heap.size+1<k:=fun k hk=>by have:=hlo4 k hk;omega
 have HRR:Hid (∀ W',Keep (fun k=>k=w.heap.size∨k=w.heap.size+1) (w4.setCell ⟨r1,seg,none⟩ (.slice At q kt)) W'→Grow w W'∧Foot (RowsU (moreA a seg l) (.slice (some ⟨r1,0,none⟩) N cv)) W' (NewF F w W')):=by
  refine LH (fun W' hk=>?_)
  have hgw:Grow w W':=hg5.trans hk (fun j hj=>.inr (by omega))
  have hsl2:(s1++l).length=q:=by rw [List.length_append,HM.out,HP.out,HQ.out]
  have hla2:(moreA a seg l).length=N:=HLEN.out
  rw [HMA.out] at hla2 ⊢
  have o2:=zF hs5 hk (fun k hk2 e=>by have:=hS5L k hk2;omega)
  have o1:=zF hst1.1 hk (fun k hk2 e=>by cases hk2;exact absurd e (show ¬ (r1=w.heap.size∨r1=w.heap.size+1) by omega))
  have hl1:=(o1.lt r1 rfl).2
  have hl2:∀ j,(Value.slice At q kt).ownBlock=some j→w.heap.size≤j∧j<W'.heap.size:=fun j hj=>⟨by have:=hS5L j hj;omega,(o2.lt j hj).2⟩
  refine ⟨hgw,(((HD1.out.grow hgw).and ((Foot.of_own o1).and (Foot.of_ownU o2))).imp (fun W2 hW=>?_)).mono (fun k hk=>?_) (fun k hk=>?_)⟩
  ·have hsr:SliceR 1 (.slice At (s1++l).length kt) (s1++l).length (u64s (s1++l)) W2:=by
     rw [hsl2]
     have:=hW.2.2.1
     rwa [show u64s (s1++l)=u64s s1++u64s l from by simp [u64s]]
   have hd:=hW.1.set seg HSEG.out (s1++l) _ kt hsr (by rw [hsl2];exact hW.2.2.2)
   have ho1:SliceR 1 (.slice (some ⟨r1,0,none⟩) (a1.set seg (s1++l)).length cv) (a1.set seg (s1++l)).length (vs.set seg (.slice At (s1++l).length kt)) W2:=by
    rw [hsl2,hla2]
    exact hW.2.1
   have:=RowsU.of_slice ho1 hd
   rw [hla2] at this
   exact this
  ·rcases hk with h | h
   ·exact Nat.lt_of_lt_of_le (HD1.out.lt h) hgw.size
   ·exact h.2
  ·rcases hk with h | h | h
   ·exact .inl h
   ·cases h;exact .inr ⟨show w.heap.size≤r1 by omega,hl1⟩
   ·exact .inr (hl2 k h)
 have HFIN:Hid (∀ B9:Bool,Grow w ((((((w4.setCell ⟨r1,seg,none⟩ (.slice At q kt)).setCell ⟨w.heap.size,0,none⟩ (.slice (some ⟨r1,0,none⟩) N cv)).setCell ⟨w.heap.size,2,none⟩ (.bool B9)).setCell ⟨w.heap.size+1,0,none⟩ (.slice (some ⟨r1,0,none⟩) N cv)).setCell ⟨w.heap.size+1,1,none⟩ (.int .i64 size)).setCell ⟨w.heap.size+1,2,none⟩ (.bool B9))∧Foot (RowsU (moreA a seg l) (.slice (some ⟨r1,0,none⟩) N cv)) ((((((w4.setCell ⟨r1,seg,none⟩ (.slice At q kt)).setCell ⟨w.heap.size,0,none⟩ (.slice (some ⟨r1,0,none⟩) N cv)).setCell ⟨w.heap.size,2,none⟩ (.bool B9)).setCell ⟨w.heap.size+1,0,none⟩ (.slice (some ⟨r1,0,none⟩) N cv)).setCell ⟨w.heap.size+1,1,none⟩ (.int .i64 size)).setCell ⟨w.heap.size+1,2,none⟩ (.bool B9)) (NewF F w ((((((w4.setCell ⟨r1,seg,none⟩ (.slice At q kt)).setCell ⟨w.heap.size,0,none⟩ (.slice (some ⟨r1,0,none⟩) N cv)).setCell ⟨w.heap.size,2,none⟩ (.bool B9)).setCell ⟨w.heap.size+1,0,none⟩ (.slice (some ⟨r1,0,none⟩) N cv)).setCell ⟨w.heap.size+1,1,none⟩ (.int .i64 size)).setCell ⟨w.heap.size+1,2,none⟩ (.bool B9)))):=LH (fun B9=>HRR.out _
  (((((((Keep.refl (fun k=>k=w.heap.size∨k=w.heap.size+1) (w4.setCell ⟨r1,seg,none⟩ (.slice At q kt))).setCell (p:=⟨w.heap.size,0,none⟩) (.inl (.inl rfl)) _).setCell (p:=⟨w.heap.size,2,none⟩) (.inl (.inl rfl)) _).setCell (p:=⟨w.heap.size+1,0,none⟩) (.inl (.inr rfl)) _).setCell (p:=⟨w.heap.size+1,1,none⟩) (.inl (.inr rfl)) _).setCell (p:=⟨w.heap.size+1,2,none⟩) (.inl (.inr rfl)) _)))
 have HW6:=LH (HRR.out ((w4.setCell ⟨r1,seg,none⟩ (.slice At q kt)).setCell ⟨w.heap.size,0,none⟩ (.slice (some ⟨r1,0,none⟩) N cv)) ((Keep.refl (fun k=>k=w.heap.size∨k=w.heap.size+1) (w4.setCell ⟨r1,seg,none⟩ (.slice At q kt))).setCell (p:=⟨w.heap.size,0,none⟩) (.inl (.inl rfl)) _)).2.now
 obtain ⟨z0,z1,z2,zf⟩:=zI hb04
 obtain ⟨y0,y1,y2,yf⟩:=zI hb14
 have e1:r1≠w.heap.size:=by omega
 have e2:w.heap.size≠r1:=by omega
 have e3:r1≠w.heap.size+1:=by omega
 have e4:w.heap.size+1≠r1:=by omega
 have HSQ:Hid (((moreA a seg l).getD seg []).length=q):=LH (by rw [HMA.out];simp [HSEG.out];have:=HM.out;have:=HP.out;have:=HQ.out;omega)
 have HWB:Hid ((moreA a seg l).length≤1000∧∀ s∈moreA a seg l,s.length≤1000000):=LH ⟨by have:=HLEN.out;have:=HNX.out;omega,fun s hs=>by
  rw [HMA.out] at hs
  rcases List.mem_or_eq_of_mem_set hs with h | h
  ·rw [← HA1.out] at h;have:=HLS.out s h;omega
  ·rw [h,List.length_append];have:=HM.out;have:=HP.out;omega⟩
 clear hap ho hlo3 hlo4 hk4 hO4 hg4 hb04 hb14 hq hst1 hs5 hg5 HO3 HG3 HB03 HB13 HS HS3 HG2 hS5L
 have HFD:Hid (moreF a size full seg l=(full||decide (size<q)||decide (16<N)||decide (4096<(moreA a seg l).flatten.length))):=LH (by unfold moreF;rw [HSQ.out,HLEN.out])
 rcases hfl:full with _ | _
 ·by_cases hsz:size<q
  ·have hsd:decide (size<(q:Int))=true:=by simpa using hsz
   have HF:Hid (moreF a size full seg l=true):=LH (by rw [HFD.out,hsd];simp)
   subst hfl
   go_wp2
   refine bodyPost_ret (v:=.agg #[.slice (some ⟨r1,0,none⟩) N cv,.int .i64 size,.bool true]) ?_ rfl ⟨some ⟨r1,0,none⟩,cv,by rw [HLEN.out,HF.out],(HFIN.out true).1,by rw [HLEN.out];exact (HFIN.out true).2⟩
   rw [zO rfl];go_simp
  ·by_cases h16:16<N
   ·have h16':(16:Int)<N:=by omega
    have HF:Hid (moreF a size full seg l=true):=LH (by rw [HFD.out];simp [h16])
    subst hfl
    go_wp2
    refine bodyPost_ret (v:=.agg #[.slice (some ⟨r1,0,none⟩) N cv,.int .i64 size,.bool true]) ?_ rfl ⟨some ⟨r1,0,none⟩,cv,by rw [HLEN.out,HF.out],(HFIN.out true).1,by rw [HLEN.out];exact (HFIN.out true).2⟩
    rw [zO rfl];go_simp
   ·have h16':¬ (16:Int)<N:=by omega
    have HF:Hid (moreF a size full seg l=decide (4096<(moreA a seg l).flatten.length)):=LH (by
     rw [HFD.out,hfl]
     have:decide (size<(q:Int))=false:=by simpa using hsz
     rw [this]
     simp [h16])
    subst hfl
    have HWC:=LH (zcC (moreA a seg l) (some ⟨r1,0,none⟩) cv HWB.out.1 HWB.out.2 _ (by rw [HLEN.out];exact HW6.out.rows))
    rw [HLEN.out] at HWC
    obtain ⟨K,hK⟩:∃ K,(moreA a seg l).flatten.length=K:=⟨_,rfl⟩
    rw [hK] at HWC HF
    clear hK
    go_wp2_with fail
    refine HWC.out.mono ?_
    rintro e w5 ⟨rfl,rfl⟩
    replace HF:Hid (moreF a size false seg l=decide (4096<(K:Int))):=LH (by rw [HF.out,decide_eq_decide];omega)
    go_wp2
    refine bodyPost_ret (v:=.agg #[.slice (some ⟨r1,0,none⟩) N cv,.int .i64 size,.bool (decide (4096<(K:Int)))]) ?_ rfl ⟨some ⟨r1,0,none⟩,cv,by rw [HLEN.out,HF.out],(HFIN.out _).1,by rw [HLEN.out];exact (HFIN.out _).2⟩
    rw [zO rfl];go_simp
 ·have HF:Hid (moreF a size full seg l=true):=LH (by rw [HFD.out,hfl];simp)
  subst hfl
  go_wp2
  refine bodyPost_ret (v:=.agg #[.slice (some ⟨r1,0,none⟩) N cv,.int .i64 size,.bool true]) ?_ rfl ⟨some ⟨r1,0,none⟩,cv,by rw [HLEN.out,HF.out],(HFIN.out true).1,by rw [HLEN.out];exact (HFIN.out true).2⟩
  rw [zO rfl];go_simp
end Go.Proofs.YtfkcpaahdlkcdaaGreat

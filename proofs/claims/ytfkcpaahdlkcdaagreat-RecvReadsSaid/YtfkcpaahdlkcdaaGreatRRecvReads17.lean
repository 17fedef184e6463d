import Derived.Test.YtfkcpaahdlkcdaaGreatRRecvReads14
import Derived.Test.YtfkcpaahdlkcdaaGreatRRecvReads15
set_option linter.unusedSimpArgs false
set_option linter.unusedVariables false
set_option maxRecDepth 100000
set_option maxHeartbeats 16000000
namespace Go.Proofs.YtfkcpaahdlkcdaaGreat
open Go.RowKit
theorem SliceR.sub8 {A:Option Addr} {c:Nat} {l:List Int} {w:World} (h:SliceR 1 (.slice A l.length c) l.length (u8s l) w) (K L:Nat) (hK:K+L≤l.length) (c':Nat) (hc:L≤c') (hc0:A=none→c'=0):SliceR 1 (.slice (A.map fun ad=>ad.add K) ((l.drop K).take L).length c') ((l.drop K).take L).length (u8s ((l.drop K).take L)) w:=by
 obtain ⟨A',c2,e,hcc,hl,hA,hq⟩:=h
 injection e with e1 e2 e3
 subst e1;subst e3
 have hpl:((l.drop K).take L).length=L:=by simp;omega
 refine ⟨_,_,by rw [hpl],by rw [hpl];exact hc,by simp [u8s],fun h=>?_,fun j u hu=>?_⟩
 ·cases A with
  | none=>exact hc0 rfl
  | some ad=>simp at h
 ·have hj:j<L:=by have:=(List.getElem?_eq_some_iff.1 hu).1;simp [u8s] at this;omega
  have hu2:(u8s l)[K+j]? = some u:=by
   rw [← hu]
   simp [u8s,List.getElem?_take,hj]
  obtain ⟨ad,rfl,hcell⟩:=hq _ _ hu2
  exact ⟨_,rfl,by rw [Addr.add_add];exact hcell⟩
theorem zBG {ad:Addr} {c n:Nat} {l:List Int} {w:World} (hn:l.length=n) (hn2:n≤100000) (h:SliceR 1 (.slice (some ad) n c) n (u8s l) w) (hb:∀ x∈l,0≤x∧x≤255) (K L:Nat) (hK:K+L≤n) (hc:L≤c-K) :
    Calls Tryz.prog 242 #[.slice (some (ad.add K)) L (c-K)] w fun e w'=>∃ x:Int,e=.returned (.int .u64 x)∧0≤x∧x≤18446744073709551615∧w=w':=by
 subst hn
 have hs:=SliceR.sub8 h K L hK (c-K) hc (fun e=>by cases e)
 have hl:((l.drop K).take L).length=L:=by simp;omega
 have:=zOI (some (ad.add K)) (c-K) ((l.drop K).take L) (by rw [hl];omega) (fun x hx=>hb x (List.mem_of_mem_drop (List.mem_of_mem_take hx))) w hs
 rw [hl] at this
 exact this
def okW (l:List Int):Prop:=∀ x∈l,0≤x∧x≤18446744073709551615
theorem okW.snoc {l:List Int} {x:Int} (h:okW l) (h0:0≤x) (h1:x≤18446744073709551615):okW (l++[x]):=fun y hy=>by
 rcases List.mem_append.1 hy with e | e
 ·exact h y e
 ·rw [List.mem_singleton.1 e];exact ⟨h0,h1⟩
theorem zCB (k s:Int) (ws bs:List Int) (nk:Nat) (A1 A2 A3:Option Addr) (c1 c2 c3:Nat) (h1:ws.length≤100000) (h2:bs.length≤100000) (h3:nk≤100000) (hw1:okW ws) (hb1:∀ x∈bs,0≤x∧x≤255) (w:World) (hW:SliceR 1 (.slice A1 ws.length c1) ws.length (u64s ws) w) (hB:SliceR 1 (.slice A2 bs.length c2) bs.length (u8s bs) w) :
    Calls Tryz.prog 198 #[.agg #[.int .i64 k,.int .i64 s,.slice A1 ws.length c1,.slice A2 bs.length c2,.slice A3 nk c3]] w fun e w'=>∃ l A c,e=.returned (.slice A l.length c)∧l.length=ws.length+(bs.length+7)/8+nk∧okW l∧Grow w w'∧SliceR 1 (.slice A l.length c) l.length (u64s l) w':=by
 have hga:=(Keep.refl NoB w).alloc (.cells #[.int .i64 k,.int .i64 s,.slice A1 ws.length c1,.slice A2 bs.length c2,.slice A3 nk c3] 114)
 have HC:=LH (heap_alloc_new w (.cells #[.int .i64 k,.int .i64 s,.slice A1 ws.length c1,.slice A2 bs.length c2,.slice A3 nk c3] 114))
 have HG:=LH hga
 have HSW:=LH ((hW.grow hga).src (P:=Tryz.prog) (tx:=111) zx (zsA _))
 have HB:=LH (hB.grow hga)
 have HOLD:=LH hB
 have HW1:=LH hw1
 have HB1:=LH hb1
 obtain ⟨nw,hnw⟩:∃ nw,ws.length=nw:=⟨_,rfl⟩
 obtain ⟨nb,hnb⟩:∃ nb,bs.length=nb:=⟨_,rfl⟩
 have hcb:nb≤c2:=by
  obtain ⟨_,_,e,h,_⟩:=hB
  injection e with _ _ e
  omega
 have hA0:A2=none→c2=0:=by
  obtain ⟨_,_,e,_,_,h,_⟩:=hB
  injection e with e1 _ e
  rw [e1,e];exact h
 have HA0:=LH hA0
 have HNW:=LH hnw
 have HNB:=LH hnb
 rw [hnw] at HC HG HSW HB h1 ⊢
 rw [hnb] at HC HG HSW HB HOLD h2 ⊢
 clear hga hW hB hw1 hb1 hnw hnb hA0
 go_enter Tryz.func198,Tryz.ntmps198
 go_wp2_with (at_builtin;refine zL _ rfl _ _ 111 111 rfl w.heap.size 22 (.int .u64 0) 1 8 zx zj rfl (.slice none 0 0) 0 [] rfl (.slice A1 nw c1) nw (u64s ws) rfl ?_ ?c0 ?c1 ?c2 ?c3 ?c4;intro v' w2 hap;refine Hid.out ?_)
 case c0=>exact World.ownsRow_nil _ _ _ _
 case c1=>exact HSW.out
 case c2=>simp only [maxLen];omega
 case c3=>omega
 case c4=>simp
 refine LH ?_
 have ho:=hap.own
 simp only [Nat.zero_add,List.nil_append] at ho
 have hgx:=HG.out.grown hap.grew (by simp [Value.ownBlock])
 have hgy:=(Keep.refl NoB (w.alloc (.cells #[.int .i64 k,.int .i64 s,.slice A1 nw c1,.slice A2 nb c2,.slice A3 nk c3] 114))).grown hap.grew (by simp [Value.ownBlock])
 have HC2:=LH (Grow.heap hgy HC.out)
 have HB2:=LH (HB.out.grow hgy)
 obtain ⟨Av,cv,rfl,_⟩:=zK ho
 have HO:=LH ho
 have HG2:=LH hgx
 have hge:∀ j,(Value.slice Av nw cv).ownBlock=some j→j≠w.heap.size:=fun j hj e=>by
  rcases zu hap j hj with h | h
  ·simp [Value.ownBlock] at h
  ·have:j=w.heap.size+1:=by simpa using h
   omega
 have HGE:=LH hge
 clear hap ho hgx hgy HC HB HG hge HSW
 go_wp2
 go_loopw [3,4] (fun a i wr=>∃ (j:Nat) (l:List Int) (A:Option Addr) (c:Nat),8*j≤nb+7∧i=.int .i64 (8*j:Nat)∧a=.slice A (nw+j) c∧Hid (l.length=nw+j∧okW l∧wr.ownsRow w.heap.size 22 1 (.slice A (nw+j) c) (nw+j) (u64s l)∧Grow w wr∧wr.heap[w.heap.size]? = some (.cells #[.int .i64 k,.int .i64 s,.slice A1 nw c1,.slice A2 nb c2,.slice A3 nk c3] 114 (0,0))∧SliceR 1 (.slice A2 nb c2) nb (u8s bs) wr∧∀ j2,(Value.slice A (nw+j) c).ownBlock=some j2→j2≠w.heap.size)) (fun _ i _=>nb-(intOf i).toNat)
 case atStart=>exact ⟨0,ws,Av,cv,by omega,rfl,rfl,HNW.out,HW1.out,HO.out,HG2.out,HC2.out,HB2.out,HGE.out⟩
 case round =>
  clear HO HG2 HC2 HB2 HGE
  obtain ⟨j,l,A,c,hj,rfl,rfl,HH⟩:=hrel
  obtain ⟨d0,d1,d2,d3,d4,df⟩:=zA HH.out.2.2.2.2.1
  obtain ⟨K,hK⟩:∃ K,8*j=K:=⟨_,rfl⟩
  rw [hK]
  have HK:=LH hK
  by_cases hlt:K<nb
  ·have hlt':(K:Int)<nb:=by omega
   have hw8:IntKind.i64.wrap ((K:Int)+8)=(K:Int)+8:=IntWalk.i64_in _ (by omega)
   obtain ⟨ad,rfl⟩:∃ ad,A2=some ad:=by
    cases A2 with
    | none=>have:=HA0.out rfl;omega
    | some ad=>exact ⟨ad,rfl⟩
   have hne:¬ (c2=K):=by omega
   clear hK
   by_cases hq:nb<K+8
   ·have hq':(nb:Int)<(K:Int)+8:=by omega
    have hin:0≤(K:Int)∧(K:Int)≤nb:=by omega
    have hin2:(nb:Int)≤c2:=by omega
    have HGT:=LH (zBG (l:=bs) HNB.out h2 HH.out.2.2.2.2.2.1 HB1.out K (nb-K) (by omega) (by omega))
    go_wp2_with fail
    refine HGT.out.mono ?_
    rintro e w5 ⟨x,rfl,hx0,hx1,rfl⟩
    have HX:Hid (0≤x∧x≤18446744073709551615):=LH ⟨hx0,hx1⟩
    clear hx0 hx1
    go_wp2_with (at_builtin;refine zL _ rfl _ _ 111 111 rfl w.heap.size 22 (.int .u64 0) 1 8 zx zj rfl (.slice A (nw+j) c) (nw+j) (u64s l) rfl (.slice (some ⟨wr.heap.size,0,none⟩) 1 1) 1 [.int .u64 x] rfl ?_ ?e0 ?e1 ?e2 ?e3 ?e4;intro v' w6 hap;refine Hid.out ?_)
    case e0=>exact zF HH.out.2.2.1 ((Keep.refl NoB _).alloc _) (fun _ _ h=>h)
    case e1=>exact Src.ofSlice _ zx ⟨wr.heap.size,0,none⟩ 1 1 _ rfl (World.news_of_block (cs:=#[.int .u64 x]) (t:=22) (fr:=(0,0)) (heap_alloc_new wr _)) (by simp [Value.oneCell'])
    case e2=>simp only [maxLen];omega
    case e3=>omega
    case e4=>have:=HH.out.2.2.2.1.size;simp;omega
    refine LH ?_
    obtain ⟨A',c',rfl,_⟩:=zK hap.own
    have hkk:Keep (fun j2=>(Value.slice A (nw+j) c).ownBlock=some j2) wr w6:=((Keep.refl _ wr).alloc _).grown hap.grew (fun k hk=>.inl hk)
    have hbl:=(gE HH.out.2.2.2.2.1).1
    have HH6:Hid ((l++[x]).length=nw+(j+1)∧okW (l++[x])∧w6.ownsRow w.heap.size 22 1 (.slice A' (nw+(j+1)) c') (nw+(j+1)) (u64s (l++[x]))∧Grow w w6∧w6.heap[w.heap.size]? = some (.cells #[.int .i64 k,.int .i64 s,.slice A1 nw c1,.slice (some ad) nb c2,.slice A3 nk c3] 114 (0,0))∧SliceR 1 (.slice (some ad) nb c2) nb (u8s bs) w6∧∀ j2,(Value.slice A' (nw+(j+1)) c').ownBlock=some j2→j2≠w.heap.size):=by
     refine LH ⟨by rw [List.length_append,HH.out.1];rfl,HH.out.2.1.snoc HX.out.1 HX.out.2,?_,HH.out.2.2.2.1.trans hkk (fun i hi=>.inr (HH.out.2.2.1.lt i hi).1),(hkk.block _ hbl (fun e=>HH.out.2.2.2.2.2.2 _ e rfl)).trans HH.out.2.2.2.2.1,HOLD.out.grow (HH.out.2.2.2.1.trans hkk (fun i hi=>.inr (HH.out.2.2.1.lt i hi).1)),fun j2 hj2=>?_⟩
     ·have:=hap.own
      rwa [show u64s (l++[x])=u64s l++[.int .u64 x] from by simp [u64s]]
     ·rcases zu hap j2 hj2 with h | h
      ·exact HH.out.2.2.2.2.2.2 j2 h
      ·have:j2=wr.heap.size+1:=by simpa using h
       omega
    clear hap hkk d0 d1 d2 d3 d4 df
    go_wp2
    go_roundw
    case rel=>exact ⟨j+1,l++[x],A',c',by have:=HK.out;omega,by rw [show 8*(j+1)=K+8 from by have:=HK.out;omega];go_num,rfl,HH6.out⟩
    case measure=>simp [intOf];omega
   ·have hq':¬ (nb:Int)<(K:Int)+8:=by omega
    have hin:0≤(K:Int)∧(K:Int)≤(K:Int)+8:=by omega
    have hin2:(K:Int)+8≤c2:=by omega
    have HGT:=LH (zBG (l:=bs) HNB.out h2 HH.out.2.2.2.2.2.1 HB1.out K 8 (by omega) (by omega))
    go_wp2_with fail
    refine HGT.out.mono ?_
    rintro e w5 ⟨x,rfl,hx0,hx1,rfl⟩
    have HX:Hid (0≤x∧x≤18446744073709551615):=LH ⟨hx0,hx1⟩
    clear hx0 hx1
    go_wp2_with (at_builtin;refine zL _ rfl _ _ 111 111 rfl w.heap.size 22 (.int .u64 0) 1 8 zx zj rfl (.slice A (nw+j) c) (nw+j) (u64s l) rfl (.slice (some ⟨wr.heap.size,0,none⟩) 1 1) 1 [.int .u64 x] rfl ?_ ?e0 ?e1 ?e2 ?e3 ?e4;intro v' w6 hap;refine Hid.out ?_)
    case e0=>exact zF HH.out.2.2.1 ((Keep.refl NoB _).alloc _) (fun _ _ h=>h)
    case e1=>exact Src.ofSlice _ zx ⟨wr.heap.size,0,none⟩ 1 1 _ rfl (World.news_of_block (cs:=#[.int .u64 x]) (t:=22) (fr:=(0,0)) (heap_alloc_new wr _)) (by simp [Value.oneCell'])
    case e2=>simp only [maxLen];omega
    case e3=>omega
    case e4=>have:=HH.out.2.2.2.1.size;simp;omega
    refine LH ?_
    obtain ⟨A',c',rfl,_⟩:=zK hap.own
    have hkk:Keep (fun j2=>(Value.slice A (nw+j) c).ownBlock=some j2) wr w6:=((Keep.refl _ wr).alloc _).grown hap.grew (fun k hk=>.inl hk)
    have hbl:=(gE HH.out.2.2.2.2.1).1
    have HH6:Hid ((l++[x]).length=nw+(j+1)∧okW (l++[x])∧w6.ownsRow w.heap.size 22 1 (.slice A' (nw+(j+1)) c') (nw+(j+1)) (u64s (l++[x]))∧Grow w w6∧w6.heap[w.heap.size]? = some (.cells #[.int .i64 k,.int .i64 s,.slice A1 nw c1,.slice (some ad) nb c2,.slice A3 nk c3] 114 (0,0))∧SliceR 1 (.slice (some ad) nb c2) nb (u8s bs) w6∧∀ j2,(Value.slice A' (nw+(j+1)) c').ownBlock=some j2→j2≠w.heap.size):=by
     refine LH ⟨by rw [List.length_append,HH.out.1];rfl,HH.out.2.1.snoc HX.out.1 HX.out.2,?_,HH.out.2.2.2.1.trans hkk (fun i hi=>.inr (HH.out.2.2.1.lt i hi).1),(hkk.block _ hbl (fun e=>HH.out.2.2.2.2.2.2 _ e rfl)).trans HH.out.2.2.2.2.1,HOLD.out.grow (HH.out.2.2.2.1.trans hkk (fun i hi=>.inr (HH.out.2.2.1.lt i hi).1)),fun j2 hj2=>?_⟩
     ·have:=hap.own
      rwa [show u64s (l++[x])=u64s l++[.int .u64 x] from by simp [u64s]]
     ·rcases zu hap j2 hj2 with h | h
      ·exact HH.out.2.2.2.2.2.2 j2 h
      ·have:j2=wr.heap.size+1:=by simpa using h
       omega
    clear hap hkk d0 d1 d2 d3 d4 df
    go_wp2
    go_roundw
    case rel=>exact ⟨j+1,l++[x],A',c',by have:=HK.out;omega,by rw [show 8*(j+1)=K+8 from by have:=HK.out;omega];go_num,rfl,HH6.out⟩
    case measure=>simp [intOf];omega
  ·have hlt':¬ ((K:Int)<nb):=by omega
   have HJ:Hid (j=(nb+7)/8):=LH (by omega)
   clear hK
   obtain ⟨v',w',hr,ho,hg,hat⟩:=zfK wr w.heap.size 111 (.slice A (nw+j) c) (nw+j) (u64s l) HH.out.2.2.1 nk (by omega) HH.out.2.2.2.1.size
   have HR:=LH hr
   have HFIN:Hid ((l++List.replicate nk 0).length=nw+(nb+7)/8+nk∧okW (l++List.replicate nk 0)∧Grow w w'∧∃ A c,v'=.slice A (l++List.replicate nk 0).length c∧SliceR 1 (.slice A (l++List.replicate nk 0).length c) (l++List.replicate nk 0).length (u64s (l++List.replicate nk 0)) w'):=by
    have hl:(l++List.replicate nk (0:Int)).length=nw+j+nk:=by rw [List.length_append,HH.out.1,List.length_replicate]
    have hkk:Keep (fun j2=>(Value.slice A (nw+j) c).ownBlock=some j2) wr w':=(Keep.refl _ wr).grown hg (fun k hk=>.inl hk)
    obtain ⟨A9,c9,rfl,_⟩:=zK ho
    refine LH ⟨by rw [hl,HJ.out],fun x hx=>?_,HH.out.2.2.2.1.trans hkk (fun i hi=>.inr (HH.out.2.2.1.lt i hi).1),A9,c9,by rw [hl],?_⟩
    ·rcases List.mem_append.1 hx with e | e
     ·exact HH.out.2.1 x e
     ·rw [List.eq_of_mem_replicate e];omega
    ·rw [hl]
     have:=SliceR.of_own ho
     rwa [show u64s (l++List.replicate nk 0)=u64s l++u64s (List.replicate nk 0) from by simp [u64s]]
   clear hr ho hg hat
   obtain ⟨A9,c9,hv9,hs9⟩:=HFIN.out.2.2.2
   subst hv9
   have HS9:=LH hs9
   clear hs9
   go_wp2_with (at_builtin;refine zBE rfl _ _ _ _ rfl _ _ rfl rfl _ w' HR.out ?_)
   go_ret
   exact ⟨_,A9,c9,by simp,HFIN.out.1,HFIN.out.2.1,HFIN.out.2.2.1,HS9.out⟩
def allR (l:Nat) (rows:List (Tr×Value×Value×Value)):Bool:=(rows.map (·.1)).all (rightB l)
theorem zgK (l:Nat) (ih:RDeepAt l) (hl:l≤1000) (rows:List (Tr×Value×Value×Value)) (A1 A2 A3:Option Addr) (c1 c2 c3 nw:Nat) (hw:nw≤100) (hk:rows.length≤100) (w:World) (h:SliceR 5 (.slice A3 rows.length c3) rows.length (kcs rows) w) (hr:∀ r,r∈rows→TrR w r.1 r.2.1 r.2.2.1 r.2.2.2) (hb:∀ r,r∈rows→TrB r.1) :
    Calls Tryz.prog 143 #[.agg #[.int .i64 1,qJ,.slice A1 nw c1,.slice A2 0 c2,.slice A3 rows.length c3],.int .i64 (l+1:Nat)] w fun e w'=>e=.returned (.bool (allR l rows))∧Grow w w':=by
 have IH:=LH ih
 have H:=LH h
 have HR:=LH hr
 have HB:=LH hb
 clear ih h hr hb
 have hwi:(nw:Int)≤100:=by omega
 have hki:(rows.length:Int)≤100:=by omega
 have hll:((l+1:Nat):Int)≠0:=by omega
 have hle:(((l+1:Nat):Int)==0)=false:=beq_eq_false_iff_ne.2 hll
 obtain ⟨l1,hl1⟩:∃ l1,l+1=l1:=⟨_,rfl⟩
 rw [hl1] at hll hle ⊢
 have hwl:IntKind.i64.wrap ((l1:Int)-1)=(l:Int):=by rw [IntWalk.i64_in _ (by omega)];omega
 clear hl1 hll
 have hga:=(Keep.refl NoB w).alloc (.cells #[.int .i64 1,qJ,.slice A1 nw c1,.slice A2 0 c2,.slice A3 rows.length c3] 114)
 have HG:=LH hga
 have HC:=LH (heap_alloc_new w (.cells #[.int .i64 1,qJ,.slice A1 nw c1,.slice A2 0 c2,.slice A3 rows.length c3] 114))
 clear hga
 go_enter Tryz.func143,Tryz.ntmps143
 go_wp2
 go_loopw [9] (fun v wr=>∃ k:Nat,k≤rows.length∧v=.int .i64 k∧Hid (Grow w wr∧((rows.map (·.1)).take k).all (rightB l)=true∧wr.heap[w.heap.size]? = some (.cells #[.int .i64 1,qJ,.slice A1 nw c1,.slice A2 0 c2,.slice A3 rows.length c3] 114 (0,0)))) (fun v _=>rows.length-(intOf v).toNat)
 case atStart=>exact ⟨0,by omega,rfl,HG.out,by simp,HC.out⟩
 case round =>
  obtain ⟨k,hk2,rfl,HS⟩:=hrel
  obtain ⟨d0,d1,d2,d3,d4,df⟩:=zA HS.out.2.2
  by_cases hlt:k<rows.length
  ·have hlt':(k:Int)<rows.length:=by omega
   have hw3:IntKind.i64.wrap ((k:Int)+1)=(k:Int)+1:=IntWalk.i64_in _ (by omega)
   obtain ⟨ad,rfl,q0,q1,q2,q3,q4⟩:=zuA (H.out.grow HS.out.1) k hlt
   have hT:=LH ((HR.out _ (List.getElem_mem hlt)).grow HS.out.1)
   have hTB:=LH (HB.out _ (List.getElem_mem hlt))
   obtain ⟨B1,g1,B2,g2,B3,g3,e1,e2,e3⟩:=hT.out.parts
   rw [e1] at q2
   rw [e2] at q3
   rw [e3] at q4
   have hR1:=IH.out rows[k].1 _ _ _ wr hT.out hTB.out
   rw [e1,e2,e3] at hR1
   have HR1:=LH hR1
   have hget:((rows.map (·.1)).take (k+1)).all (rightB l)=(((rows.map (·.1)).take k).all (rightB l)&&rightB l rows[k].1):=by
    rw [List.take_succ_eq_append_getElem (by simpa using hlt),List.all_append]
    simp
   have Hget:=LH hget
   have Hmem:Hid (rightB l rows[k].1=false→allR l rows=false):=LH (fun hf=>by
    unfold allR
    rw [List.all_eq_false]
    exact ⟨rows[k].1,List.mem_map.2 ⟨_,List.getElem_mem hlt,rfl⟩,by simp [hf]⟩)
   clear hR1 hget e1 e2 e3
   go_wp2_with fail
   refine HR1.out.mono ?_
   rintro e w2 ⟨rfl,hg⟩
   have HG2:=LH (HS.out.1.grow hg)
   have HC2:=LH (Grow.heap hg HS.out.2.2)
   clear hg
   cases hok:rightB l rows[k].1 with
   | false =>
    have Hall:=LH (Hmem.out hok)
    clear hok
    go_wp2
    go_ret
    exact ⟨by rw [Hall.out];rfl,HG2.out⟩
   | true =>
    have Hall:Hid (((rows.map (·.1)).take (k+1)).all (rightB l)=true):=LH (by rw [Hget.out,HS.out.2.1,hok];rfl)
    clear hok
    go_wp2
    go_roundw
    case rel=>exact ⟨k+1,by omega,by go_num,HG2.out,Hall.out,HC2.out⟩
    case measure=>simp [intOf];omega
  ·obtain rfl:k=rows.length:=by omega
   have hlt':¬ ((rows.length:Int)<rows.length):=by omega
   have hall:=HS.out.2.1
   rw [List.take_of_length_le (by simp)] at hall
   have Hall:Hid (allR l rows=true):=LH hall
   clear hall
   go_wp2
   go_ret
   exact ⟨by rw [Hall.out];rfl,HS.out.1⟩
theorem zXJ (A1 A2 A3:Option Addr) (c1 c2 c3 nw nk:Nat) (hw:nw≤100) (hk:nk≤100) (w:World) :
    Calls Tryz.prog 143 #[.agg #[.int .i64 1,qJ,.slice A1 nw c1,.slice A2 0 c2,.slice A3 nk c3],.int .i64 0] w fun e w'=>e=.returned (.bool false)∧Grow w w':=by
 have hwi:(nw:Int)≤100:=by omega
 have hki:(nk:Int)≤100:=by omega
 go_enter Tryz.func143,Tryz.ntmps143
 go_wp2
 go_ret
 exact ⟨rfl,(Keep.refl NoB w).alloc _⟩
theorem zhK (l:Nat) (ih:RDeepAt l) (hl:l≤1000) (rows:List (Tr×Value×Value×Value)) (A1 A2 A3:Option Addr) (c1 c2 c3 nb:Nat) (hw:nb≤4096) (h0:rows.length=0) (w:World) (h:SliceR 5 (.slice A3 rows.length c3) rows.length (kcs rows) w) (hr:∀ r,r∈rows→TrR w r.1 r.2.1 r.2.2.1 r.2.2.2) (hb:∀ r,r∈rows→TrB r.1) :
    Calls Tryz.prog 143 #[.agg #[qQ,qQ,.slice A1 0 c1,.slice A2 nb c2,.slice A3 rows.length c3],.int .i64 (l+1:Nat)] w fun e w'=>e=.returned (.bool (allR l rows))∧Grow w w':=by
 have IH:=LH ih
 have H:=LH h
 have HR:=LH hr
 have HB:=LH hb
 clear ih h hr hb
 have hbi:(nb:Int)≤4096:=by omega
 have hll:((l+1:Nat):Int)≠0:=by omega
 have hle:(((l+1:Nat):Int)==0)=false:=beq_eq_false_iff_ne.2 hll
 obtain ⟨l1,hl1⟩:∃ l1,l+1=l1:=⟨_,rfl⟩
 rw [hl1] at hll hle ⊢
 have hwl:IntKind.i64.wrap ((l1:Int)-1)=(l:Int):=by rw [IntWalk.i64_in _ (by omega)];omega
 clear hl1 hll
 have o5:((2:Int)==5)=false:=rfl
 have o6:((2:Int)==6)=false:=rfl
 have HZ:=LH h0
 obtain rfl:rows=[]:=List.eq_nil_of_length_eq_zero h0
 clear h0
 have hga:=(Keep.refl NoB w).alloc (.cells #[qQ,qQ,.slice A1 0 c1,.slice A2 nb c2,.slice A3 0 c3] 114)
 have HG:=LH hga
 have HC:=LH (heap_alloc_new w (.cells #[qQ,qQ,.slice A1 0 c1,.slice A2 nb c2,.slice A3 0 c3] 114))
 clear hga
 go_enter Tryz.func143,Tryz.ntmps143
 go_wp2
 go_loopw [9] (fun v wr=>v=.int .i64 0∧wr=w.alloc (.cells #[qQ,qQ,.slice A1 0 c1,.slice A2 nb c2,.slice A3 0 c3] 114)) (fun v _=>0)
 case atStart=>exact ⟨rfl,rfl⟩
 case round =>
  obtain ⟨rfl,rfl⟩:=hrel
  go_wp2
  go_ret
  exact ⟨rfl,HG.out⟩
theorem zYJ (A1 A2 A3:Option Addr) (c1 c2 c3 nb  : Nat) (hw:nb≤4096) (w:World) :
    Calls Tryz.prog 143 #[.agg #[qQ,qQ,.slice A1 0 c1,.slice A2 nb c2,.slice A3 0 c3],.int .i64 0] w fun e w'=>e=.returned (.bool false)∧Grow w w':=by
 have hbi:(nb:Int)≤4096:=by omega
 have o5:((2:Int)==5)=false:=rfl
 have o6:((2:Int)==6)=false:=rfl
 go_enter Tryz.func143,Tryz.ntmps143
 go_wp2
 go_ret
 exact ⟨rfl,(Keep.refl NoB w).alloc _⟩
theorem ziK (l:Nat) (ih:RDeepAt l) (hl:l≤1000) (rows:List (Tr×Value×Value×Value)) (A1 A2 A3:Option Addr) (c1 c2 c3 nw:Nat) (hw:nw≤4096) (h0:rows.length=0) (w:World) (h:SliceR 5 (.slice A3 rows.length c3) rows.length (kcs rows) w) (hr:∀ r,r∈rows→TrR w r.1 r.2.1 r.2.2.1 r.2.2.2) (hb:∀ r,r∈rows→TrB r.1) :
    Calls Tryz.prog 143 #[.agg #[qQ,.int .i64 5,.slice A1 nw c1,.slice A2 0 c2,.slice A3 rows.length c3],.int .i64 (l+1:Nat)] w fun e w'=>e=.returned (.bool (allR l rows))∧Grow w w':=by
 have IH:=LH ih
 have H:=LH h
 have HR:=LH hr
 have HB:=LH hb
 clear ih h hr hb
 have hwi:(nw:Int)≤4096:=by omega
 have hll:((l+1:Nat):Int)≠0:=by omega
 have hle:(((l+1:Nat):Int)==0)=false:=beq_eq_false_iff_ne.2 hll
 obtain ⟨l1,hl1⟩:∃ l1,l+1=l1:=⟨_,rfl⟩
 rw [hl1] at hll hle ⊢
 have hwl:IntKind.i64.wrap ((l1:Int)-1)=(l:Int):=by rw [IntWalk.i64_in _ (by omega)];omega
 clear hl1 hll
 have o2:((5:Int)==2)=false:=rfl
 have o6:((5:Int)==6)=false:=rfl
 have HZ:=LH h0
 obtain rfl:rows=[]:=List.eq_nil_of_length_eq_zero h0
 clear h0
 have hga:=(Keep.refl NoB w).alloc (.cells #[qQ,.int .i64 5,.slice A1 nw c1,.slice A2 0 c2,.slice A3 0 c3] 114)
 have HG:=LH hga
 have HC:=LH (heap_alloc_new w (.cells #[qQ,.int .i64 5,.slice A1 nw c1,.slice A2 0 c2,.slice A3 0 c3] 114))
 clear hga
 go_enter Tryz.func143,Tryz.ntmps143
 go_wp2
 go_loopw [9] (fun v wr=>v=.int .i64 0∧wr=w.alloc (.cells #[qQ,.int .i64 5,.slice A1 nw c1,.slice A2 0 c2,.slice A3 0 c3] 114)) (fun v _=>0)
 case atStart=>exact ⟨rfl,rfl⟩
 case round =>
  obtain ⟨rfl,rfl⟩:=hrel
  go_wp2
  go_ret
  exact ⟨rfl,HG.out⟩
theorem zZJ (A1 A2 A3:Option Addr) (c1 c2 c3 nw  : Nat) (hw:nw≤4096) (w:World) :
    Calls Tryz.prog 143 #[.agg #[qQ,.int .i64 5,.slice A1 nw c1,.slice A2 0 c2,.slice A3 0 c3],.int .i64 0] w fun e w'=>e=.returned (.bool false)∧Grow w w':=by
 have hwi:(nw:Int)≤4096:=by omega
 have o2:((5:Int)==2)=false:=rfl
 have o6:((5:Int)==6)=false:=rfl
 go_enter Tryz.func143,Tryz.ntmps143
 go_wp2
 go_ret
 exact ⟨rfl,(Keep.refl NoB w).alloc _⟩
theorem zjK (l:Nat) (ih:RDeepAt l) (hl:l≤1000) (rows:List (Tr×Value×Value×Value)) (A1 A2 A3:Option Addr) (c1 c2 c3  : Nat) (hk:rows.length≤4096) (w:World) (h:SliceR 5 (.slice A3 rows.length c3) rows.length (kcs rows) w) (hr:∀ r,r∈rows→TrR w r.1 r.2.1 r.2.2.1 r.2.2.2) (hb:∀ r,r∈rows→TrB r.1) :
    Calls Tryz.prog 143 #[.agg #[qQ,.int .i64 6,.slice A1 0 c1,.slice A2 0 c2,.slice A3 rows.length c3],.int .i64 (l+1:Nat)] w fun e w'=>e=.returned (.bool (allR l rows))∧Grow w w':=by
 have IH:=LH ih
 have H:=LH h
 have HR:=LH hr
 have HB:=LH hb
 clear ih h hr hb
 have hki:(rows.length:Int)≤4096:=by omega
 have hll:((l+1:Nat):Int)≠0:=by omega
 have hle:(((l+1:Nat):Int)==0)=false:=beq_eq_false_iff_ne.2 hll
 obtain ⟨l1,hl1⟩:∃ l1,l+1=l1:=⟨_,rfl⟩
 rw [hl1] at hll hle ⊢
 have hwl:IntKind.i64.wrap ((l1:Int)-1)=(l:Int):=by rw [IntWalk.i64_in _ (by omega)];omega
 clear hl1 hll
 have o2:((6:Int)==2)=false:=rfl
 have o5:((6:Int)==5)=false:=rfl
 have hga:=(Keep.refl NoB w).alloc (.cells #[qQ,.int .i64 6,.slice A1 0 c1,.slice A2 0 c2,.slice A3 rows.length c3] 114)
 have HG:=LH hga
 have HC:=LH (heap_alloc_new w (.cells #[qQ,.int .i64 6,.slice A1 0 c1,.slice A2 0 c2,.slice A3 rows.length c3] 114))
 clear hga
 go_enter Tryz.func143,Tryz.ntmps143
 go_wp2
 go_loopw [9] (fun v wr=>∃ k:Nat,k≤rows.length∧v=.int .i64 k∧Hid (Grow w wr∧((rows.map (·.1)).take k).all (rightB l)=true∧wr.heap[w.heap.size]? = some (.cells #[qQ,.int .i64 6,.slice A1 0 c1,.slice A2 0 c2,.slice A3 rows.length c3] 114 (0,0)))) (fun v _=>rows.length-(intOf v).toNat)
 case atStart=>exact ⟨0,by omega,rfl,HG.out,by simp,HC.out⟩
 case round =>
  obtain ⟨k,hk2,rfl,HS⟩:=hrel
  obtain ⟨d0,d1,d2,d3,d4,df⟩:=zA HS.out.2.2
  by_cases hlt:k<rows.length
  ·have hlt':(k:Int)<rows.length:=by omega
   have hw3:IntKind.i64.wrap ((k:Int)+1)=(k:Int)+1:=IntWalk.i64_in _ (by omega)
   obtain ⟨ad,rfl,q0,q1,q2,q3,q4⟩:=zuA (H.out.grow HS.out.1) k hlt
   have hT:=LH ((HR.out _ (List.getElem_mem hlt)).grow HS.out.1)
   have hTB:=LH (HB.out _ (List.getElem_mem hlt))
   obtain ⟨B1,g1,B2,g2,B3,g3,e1,e2,e3⟩:=hT.out.parts
   rw [e1] at q2
   rw [e2] at q3
   rw [e3] at q4
   have hR1:=IH.out rows[k].1 _ _ _ wr hT.out hTB.out
   rw [e1,e2,e3] at hR1
   have HR1:=LH hR1
   have hget:((rows.map (·.1)).take (k+1)).all (rightB l)=(((rows.map (·.1)).take k).all (rightB l)&&rightB l rows[k].1):=by
    rw [List.take_succ_eq_append_getElem (by simpa using hlt),List.all_append]
    simp
   have Hget:=LH hget
   have Hmem:Hid (rightB l rows[k].1=false→allR l rows=false):=LH (fun hf=>by
    unfold allR
    rw [List.all_eq_false]
    exact ⟨rows[k].1,List.mem_map.2 ⟨_,List.getElem_mem hlt,rfl⟩,by simp [hf]⟩)
   clear hR1 hget e1 e2 e3
   go_wp2_with fail
   refine HR1.out.mono ?_
   rintro e w2 ⟨rfl,hg⟩
   have HG2:=LH (HS.out.1.grow hg)
   have HC2:=LH (Grow.heap hg HS.out.2.2)
   clear hg
   cases hok:rightB l rows[k].1 with
   | false =>
    have Hall:=LH (Hmem.out hok)
    clear hok
    go_wp2
    go_ret
    exact ⟨by rw [Hall.out];rfl,HG2.out⟩
   | true =>
    have Hall:Hid (((rows.map (·.1)).take (k+1)).all (rightB l)=true):=LH (by rw [Hget.out,HS.out.2.1,hok];rfl)
    clear hok
    go_wp2
    go_roundw
    case rel=>exact ⟨k+1,by omega,by go_num,HG2.out,Hall.out,HC2.out⟩
    case measure=>simp [intOf];omega
  ·obtain rfl:k=rows.length:=by omega
   have hlt':¬ ((rows.length:Int)<rows.length):=by omega
   have hall:=HS.out.2.1
   rw [List.take_of_length_le (by simp)] at hall
   have Hall:Hid (allR l rows=true):=LH hall
   clear hall
   go_wp2
   go_ret
   exact ⟨by rw [Hall.out];rfl,HS.out.1⟩
theorem zaJ (A1 A2 A3:Option Addr) (c1 c2 c3  nk:Nat) (hk:nk≤4096) (w:World) :
    Calls Tryz.prog 143 #[.agg #[qQ,.int .i64 6,.slice A1 0 c1,.slice A2 0 c2,.slice A3 nk c3],.int .i64 0] w fun e w'=>e=.returned (.bool false)∧Grow w w':=by
 have o2:((6:Int)==2)=false:=rfl
 have o5:((6:Int)==5)=false:=rfl
 have hki:(nk:Int)≤4096:=by omega
 go_enter Tryz.func143,Tryz.ntmps143
 go_wp2
 go_ret
 exact ⟨rfl,(Keep.refl NoB w).alloc _⟩
theorem znD {k s:Int} {nw nb nk:Nat} (h:ownB k s nw nb nk=true) (hk:k≠0):(k=1∧s=0∧nb=0∧nw≤100∧nk≤100)∨(k=2∧s=2∧nw=0∧nk=0∧nb≤4096)∨(k=2∧s=5∧nb=0∧nk=0∧nw≤4096)∨(k=2∧s=6∧nb=0∧nw=0∧nk≤4096):=by
 unfold ownB at h
 rw [if_neg hk] at h
 split at h
 ·simp only [Bool.and_eq_true,beq_iff_eq,decide_eq_true_eq] at h
  omega
 ·split at h
  ·split at h
   ·simp only [Bool.and_eq_true,beq_iff_eq,decide_eq_true_eq] at h;omega
   ·split at h
    ·simp only [Bool.and_eq_true,beq_iff_eq,decide_eq_true_eq] at h;omega
    ·split at h
     ·simp only [Bool.and_eq_true,beq_iff_eq,decide_eq_true_eq] at h;omega
     ·cases h
  ·cases h
theorem zbJ:∀ l,l≤1000→RDeepAt l:=by
 intro l
 induction l with
 | zero =>
  intro _ t vw vb vk w h hb
  by_cases hk:t.kind=0
  ·exact zCE 0 t vw vb vk w h hb hk
  rcases ho:ownT t with _ | _
  ·by_cases h1:t.kind=1
   ·exact zDE 0 t vw vb vk w h hb ho h1
   by_cases h2:t.kind=2
   ·exact zEE 0 t vw vb vk w h hb ho h2
   exact zFE 0 t vw vb vk w h hb ho ⟨hk,h1,h2⟩
  ·have hr:rightB 0 t=false:=by simp [rightB,ho,hk]
   rw [hr]
   obtain ⟨A1,c1,A2,c2,A3,c3,rfl,rfl,rfl⟩:=h.parts
   rcases znD ho hk with ⟨e1,e2,e3,e4,e5⟩ | ⟨e1,e2,e3,e4,e5⟩ | ⟨e1,e2,e3,e4,e5⟩ | ⟨e1,e2,e3,e4,e5⟩
   ·rw [e1,e2,e3];exact zXJ A1 A2 A3 c1 c2 c3 _ _ e4 e5 w
   ·rw [e1,e2,e3,e4];exact zYJ A1 A2 A3 c1 c2 c3 _ e5 w
   ·rw [e1,e2,e3,e4];exact zZJ A1 A2 A3 c1 c2 c3 _ e5 w
   ·rw [e1,e2,e3,e4];exact zaJ A1 A2 A3 c1 c2 c3 _ e5 w
 | succ l ih =>
  intro hl t vw vb vk w h hb
  have ih:=ih (by omega)
  by_cases hk:t.kind=0
  ·exact zCE (l+1) t vw vb vk w h hb hk
  rcases ho:ownT t with _ | _
  ·by_cases h1:t.kind=1
   ·exact zDE (l+1) t vw vb vk w h hb ho h1
   by_cases h2:t.kind=2
   ·exact zEE (l+1) t vw vb vk w h hb ho h2
   exact zFE (l+1) t vw vb vk w h hb ho ⟨hk,h1,h2⟩
  ·obtain ⟨A1,c1,A2,c2,A3,c3,rfl,rfl,rfl⟩:=h.parts
   cases h with
   | @mk k s ws bs _ _ _ rows hW hB hR hr =>
    have hrt:rightB (l+1) (.mk k s ws bs (rows.map (·.1)))=allR l rows:=by simp [rightB,ho,allR,Tr.kids]
    rw [hrt]
    have hkl:(Tr.mk k s ws bs (rows.map (·.1))).kids.length=rows.length:=by simp [Tr.kids]
    rw [hkl] at hR ⊢
    have hbk:∀ r,r∈rows→TrB r.1:=fun r hr=>hb.r _ (List.mem_map.2 ⟨r,hr,rfl⟩)
    have hw:=znD ho hk
    rw [hkl] at hw
    rcases hw with ⟨e1,e2,e3,e4,e5⟩ | ⟨e1,e2,e3,e4,e5⟩ | ⟨e1,e2,e3,e4,e5⟩ | ⟨e1,e2,e3,e4,e5⟩
    ·rw [e1,e2,e3];exact zgK l ih (by omega) rows A1 A2 A3 c1 c2 c3 _ e4 e5 w hR hr hbk
    ·rw [e1,e2,e3];exact zhK l ih (by omega) rows A1 A2 A3 c1 c2 c3 _ e5 e4 w hR hr hbk
    ·rw [e1,e2,e3];exact ziK l ih (by omega) rows A1 A2 A3 c1 c2 c3 _ e5 e4 w hR hr hbk
    ·rw [e1,e2,e3,e4];exact zjK l ih (by omega) rows A1 A2 A3 c1 c2 c3 e5 w hR hr hbk
theorem zAD (t:Tr) (vw vb vk:Value) (w:World) (h:TrR w t vw vb vk) (hb:TrB t) :
    Calls Tryz.prog 68 #[.agg #[t.kind,t.size,vw,vb,vk]] w fun e w'=>e=.returned (.bool (rightB 32 t))∧Grow w w':=by
 have HA:=LH ((Keep.refl NoB w).alloc (.cells #[t.kind,t.size,vw,vb,vk] 114))
 have hd:=zbJ 32 (by omega) t vw vb vk _ (h.grow HA.out) hb
 rw [show ((32:Nat):Int)=32 from rfl] at hd
 have HD:=LH hd
 clear hd
 obtain ⟨A1,c1,A2,c2,A3,c3,rfl,rfl,rfl⟩:=h.parts
 clear h hb
 go_enter Tryz.func68,Tryz.ntmps68
 go_wp2_with fail
 refine HD.out.mono ?_
 rintro e w' ⟨rfl,hg⟩
 have HG:=LH (HA.out.grow hg)
 clear hg
 go_wp2
 go_ret
 exact ⟨rfl,HG.out⟩
theorem zgJ (x:Int) (s:Nat):u8s (putB x (s+1))=u8s (putB x s)++[.int .u8 (x/2 ^ (8*s)%256)]:=by
 simp [putB,u8s,List.range_succ]
theorem zvE (x:Int) (k:Nat):x/2 ^ (8*(k+1))=x/2 ^ (8*k)/256:=by
 rw [show 8*(k+1)=8*k+8 from by omega,Int.pow_add,← Int.ediv_ediv_of_nonneg (by exact_mod_cast Nat.zero_le _)]
 rfl
theorem zTC (x:Int) (s:Nat) (w:World) (hx0:0≤x) (hx1:x≤18446744073709551615) (hs:s≤8) :
    Calls Tryz.prog 71 #[.int .u64 x,.int .i64 s] w fun e w'=>∃ A c,e=.returned (.slice A (putB x s).length c)∧Grow w w'∧w'.ownsRow w.heap.size 5 1 (.slice A (putB x s).length c) (putB x s).length (u8s (putB x s)):=by
 rw [zX]
 have HX:=LH (And.intro hx0 hx1)
 clear hx0 hx1
 go_enter Tryz.func71,Tryz.ntmps71
 go_wp2_with fail
 go_loopw [0,5,6] (fun v0 v5 v6 wr=>∃ (k:Nat) (A4:Option Addr) (c4:Nat) (y:Int),k≤s∧v6=.int .i64 k∧v5=.slice A4 k c4∧v0=.int .u64 y∧y=x/2 ^ (8*k)∧0≤y∧y≤18446744073709551615∧Hid (Grow w wr∧wr.ownsRow w.heap.size 5 1 (.slice A4 k c4) k (u8s (putB x k)))) (fun _ _ v _=>s-(intOf v).toNat)
 case atStart=>exact ⟨0,none,0,x,by omega,rfl,rfl,rfl,by simp,HX.out.1,HX.out.2,Keep.refl _ _,World.ownsRow_nil _ w.heap.size 5 1⟩
 case round =>
  obtain ⟨k,A4,c4,y,hk,rfl,rfl,rfl,hy,y0,y1,HS⟩:=hrel
  have HY:=LH hy
  clear hy
  by_cases hlt:k<s
  ·have hw:IntKind.i64.wrap ((k:Int)+1)=(k:Int)+1:=IntWalk.i64_in _ (by omega)
   have hlt':(k:Int)<(s:Int):=by omega
   have hlt8:(k:Int)<8:=by omega
   have hy2:0≤y%256:=by omega
   have hy3:y%256≤255:=by omega
   have E1:=LH (zgJ x k)
   have hgb:=HS.out.1.size
   have HGB:=LH hgb
   clear hgb
   go_wp2_with (at_builtin;refine zL _ rfl _ _ 23 23 rfl w.heap.size 5 (.int .u8 0) 1 1 zW zz rfl (.slice A4 k c4) k (u8s (putB x k)) rfl (.slice (some ⟨wr.heap.size,0,none⟩) 1 1) 1 [.int .u8 (y%256)] rfl ?_ (by exact zF HS.out.2 ((Keep.refl NoB wr).alloc _) (fun _ _ h=>h)) (by exact Src.ofSlice _ zW ⟨wr.heap.size,0,none⟩ 1 1 _ rfl (World.news_of_block (cs:=#[.int .u8 (y%256)]) (t:=5) (fr:=(0,0)) (heap_alloc_new wr _)) (by simp [Value.oneCell'])) (by simp only [maxLen];omega) (by omega) (by have:=HGB.out;simp;omega);intro v3 w3 hap;refine Hid.out ?_)
   refine LH ?_
   have Hg3:Hid (Grow w w3):=LH (((((HS.out.1.mono (T:=fun k=>w.heap.size≤k) (fun _ h=>h.elim)).alloc _).grown hap.grew (fun k hk=>.inl (HS.out.2.lt k hk).1))).new (fun _ h=>h))
   have Ho3:=LH hap.own
   obtain ⟨A6,c6,rfl,_⟩:=zK hap.own
   clear hap
   rw [HY.out,← E1.out] at Ho3
   go_wp2
   go_roundw
   case rel =>
    refine ⟨k+1,A6,c6,y/256,by omega,by go_num,rfl,rfl,?_,by omega,by omega,Hg3.out,Ho3.out⟩
    rw [zvE,HY.out]
   case measure=>simp [intOf];omega
  ·obtain rfl:k=s:=by omega
   have hlt':¬ ((k:Int)<(k:Int)):=by omega
   go_wp2
   go_ret
   exact ⟨A4,c4,rfl,HS.out.1,HS.out.2⟩
theorem zvA (a:List (List Int)) (A:Option Addr) (c:Nat) (w:World) (h:RowsR .u64 a (.slice A a.length c) w) (ha:a.length≤100000) :
    Calls Tryz.prog 70 #[.slice A a.length c] w fun e w'=>∃ A c,e=.returned (.slice A (szs a).length c)∧Grow w w'∧w'.ownsRow w.heap.size 3 1 (.slice A (szs a).length c) (szs a).length (ints (szs a)):=by
 have H:=LH h
 clear h
 go_enter Tryz.func70,Tryz.ntmps70
 go_wp2
 go_loopw [3,4] (fun vo v wr=>∃ k:Nat,k≤a.length∧v=.int .i64 k∧∃ A4 c4,vo=.slice A4 k c4∧Hid (Grow w wr∧wr.ownsRow w.heap.size 3 1 (.slice A4 k c4) k (ints ((szs a).take k)))) (fun _ v _=>a.length-(intOf v).toNat)
 case atStart=>exact ⟨0,by omega,rfl,none,0,rfl,Keep.refl _ _,by simpa [ints] using World.ownsRow_nil w w.heap.size 3 1⟩
 case round =>
  obtain ⟨k,hk,rfl,A4,c4,rfl,HS⟩:=hrel
  by_cases hlt:k<a.length
  ·obtain ⟨ad,A',c',rfl,h2,_⟩:=(H.out.grow HS.out.1).at_ k hlt
   have hw:IntKind.i64.wrap ((k:Int)+1)=(k:Int)+1:=IntWalk.i64_in _ (by omega)
   have hlt':(k:Int)<a.length:=by omega
   have e1:ints ((szs a).take (k+1))=ints ((szs a).take k)++[.int .i64 a[k].length]:=by
    rw [List.take_succ_eq_append_getElem (by simpa [szs] using hlt)]
    simp [ints,szs]
   have E1:=LH e1
   clear e1
   go_wp2_with (at_builtin;refine zL _ rfl _ _ 37 37 rfl w.heap.size 3 (.int .i64 0) 1 8 ziA zUB rfl (.slice A4 k c4) k (ints ((szs a).take k)) rfl (.slice (some ⟨wr.heap.size,0,none⟩) 1 1) 1 [.int .i64 a[k].length] rfl ?_ (by exact zF HS.out.2 ((Keep.refl NoB wr).alloc _) (fun _ _ h=>h)) (by exact Src.ofSlice _ ziA ⟨wr.heap.size,0,none⟩ 1 1 _ rfl (World.news_of_block (cs:=#[.int .i64 a[k].length]) (t:=3) (fr:=(0,0)) (heap_alloc_new wr _)) (by simp [Value.oneCell'])) (by simp only [maxLen];omega) (by omega) (by have:=HS.out.1.size;simp;omega);intro v2 w2 hap;refine Hid.out ?_)
   refine LH ?_
   have Hg2:Hid (Grow w w2):=((((HS.out.1.mono (T:=fun k=>w.heap.size≤k) (fun _ h=>h.elim)).alloc _).grown hap.grew (fun k hk=>.inl (HS.out.2.lt k hk).1))).new (fun _ h=>h)
   have Ho2:=LH hap.own
   obtain ⟨A6,c6,rfl,_⟩:=zK hap.own
   clear hap
   rw [← E1.out] at Ho2
   go_wp2
   go_roundw
   case rel=>exact ⟨k+1,by omega,by go_num,A6,c6,rfl,Hg2.out,Ho2.out⟩
   case measure=>simp [intOf];omega
  ·obtain rfl:k=a.length:=by omega
   have hlt':¬ ((a.length:Int)<a.length):=by omega
   go_wp2
   go_ret
   have ho:=HS.out.2
   rw [← zo a,List.take_length] at ho
   exact ⟨A4,c4,by rw [zo];rfl,HS.out.1,ho⟩
theorem zrB {l:List Int} (h0:∀ x∈l,0≤x) (k:Nat) (hk:k<l.length):l[k]≤l.sum-(l.take k).sum:=by
 have h1:=zw hk
 have h2:=zl h0 (k+1)
 omega
theorem zHE (A:Option Addr) (c:Nat) (l:List Int) (w:World) (h:SliceR 1 (.slice A l.length c) l.length (ints l) w) (hf:fitsB l=true) :
    Calls Tryz.prog 144 #[.slice A l.length c] w fun e w'=>e=.returned (.bool true)∧w=w':=by
 have H:=LH h
 obtain ⟨hl1,hl2,hnn,hsum⟩:=zM hf
 have hx0:1≤l[0]:=by
  unfold fitsB at hf
  simp only [decide_eq_true_eq] at hf
  have:=hf.2.2.1
  cases l with
  | nil=>simp at hl1
  | cons x r=>simpa using this
 have HN:=LH hnn
 clear h hnn hf
 have h1:¬ ((l.length:Int)<1):=by omega
 have h2:¬ ((16:Int)<l.length):=by omega
 obtain ⟨ad,rfl,q0⟩:=SliceR.int_at (k:=.i64) H.out 0 (by omega)
 have q0':w.cell? ad=some (.int .i64 l[0]):=by simpa [Addr.add] using q0
 have hx:¬ (l[0]<1):=by omega
 clear q0
 go_enter Tryz.func144,Tryz.ntmps144
 go_wp2
 clear q0' hx hx0
 go_loopw [3,4] (fun vn v wr=>wr=w∧∃ (k:Nat) (s:Int),k≤l.length∧v=.int .i64 k∧vn=.int .i64 s∧Hid (s=(l.take k).sum)∧0≤s∧s≤4096) (fun _ v _=>l.length-(intOf v).toNat)
 case atStart=>exact ⟨rfl,0,0,by omega,rfl,rfl,LH (by simp),by omega,by omega⟩
 case round =>
  obtain ⟨rfl,k,s,hk,rfl,rfl,HS,hs0,hs1⟩:=hrel
  by_cases hlt:k<l.length
  ·obtain ⟨ad2,e,q1⟩:=SliceR.int_at (k:=.i64) H.out k hlt
   injection e with e
   subst e
   have hw:IntKind.i64.wrap ((k:Int)+1)=(k:Int)+1:=IntWalk.i64_in _ (by omega)
   have hlt':(k:Int)<l.length:=by omega
   have hsu:=zw hlt
   have hle:=zrB HN.out k hlt
   have hn0:0≤l[k]:=HN.out _ (List.getElem_mem hlt)
   have hs9:=HS.out
   have hw2:IntKind.i64.wrap (4096-s)=4096-s:=IntWalk.i64_in _ (by omega)
   have hw3:IntKind.i64.wrap (s+l[k])=s+l[k]:=IntWalk.i64_in _ (by omega)
   have hb1:¬ (l[k]<0):=by omega
   have hb2:¬ (4096-s<l[k]):=by omega
   have HR:Hid (s+l[k]=(l.take (k+1)).sum∧0≤s+l[k]∧s+l[k]≤4096):=LH ⟨by omega,by omega,by omega⟩
   clear hsu hle hs9
   go_wp2
   go_roundw
   case rel=>exact ⟨trivial,k+1,s+l[k],by omega,by go_num,rfl,LH HR.out.1,HR.out.2.1,HR.out.2.2⟩
   case measure=>simp [intOf];omega
  ·obtain rfl:k=l.length:=by omega
   have hlt':¬ ((l.length:Int)<l.length):=by omega
   go_wp2
   go_ret
   exact ⟨rfl,rfl⟩
theorem zcB (a:List (List Int)) (A:Option Addr) (c:Nat) (w:World) (h:RowsR .u64 a (.slice A a.length c) w) (hf:fitsB (szs a)=true) :
    Calls Tryz.prog 69 #[.slice A a.length c] w fun e w'=>e=.returned (.bool true)∧Grow w w':=by
 have hl:=(zM hf).2.1
 rw [zo] at hl
 have HS:=LH (zvA a A c w h (by omega))
 have HF:=LH hf
 clear h hf hl
 go_enter Tryz.func69,Tryz.ntmps69
 go_wp2_with fail
 refine HS.out.mono ?_
 rintro e w1 ⟨A1,c1,rfl,hg,ho⟩
 have HO:=LH (SliceR.of_own ho)
 have HG:=LH hg
 clear hg ho
 go_wp2_with fail
 refine (zHE A1 c1 (szs a) w1 HO.out HF.out).mono ?_
 rintro e w2 ⟨rfl,rfl⟩
 go_wp2
 go_ret
 exact ⟨rfl,HG.out⟩
def rB (ws:List Int):List Int:=ws.flatMap (fun x=>putB x 8)
theorem zlH (ws:List Int) (x:Int):rB (ws++[x])=rB ws++putB x 8:=by simp [rB]
theorem zMB (ws:List Int):(rB ws).length=8*ws.length:=by
 induction ws with
 | nil=>rfl
 | cons x r ih=>simp [rB,zX] at ih ⊢;omega
theorem zdE (a b:List Int):u8s (a++b)=u8s a++u8s b:=by simp [u8s]
theorem zmH (ws:List Int) (hn:∀ x∈ws,0≤x∧x≤18446744073709551615):∀ k,k≤ws.length→bytesW (upto (fun k=>(k,wat ws k)) k)=rB (ws.take k)
 | 0,_=>by simp [upto,bytesW,rB]
 | k + 1, h => by
  have hk:k<ws.length:=by omega
  have hv:(wat ws k).1=ws[k]:=by
   have:=hn _ (List.getElem_mem hk)
   unfold wat
   have e:ws[k]?.getD 0=ws[k]:=by rw [List.getElem?_eq_getElem hk];rfl
   rw [e,dif_pos this]
  rw [zaA,List.take_succ_eq_append_getElem hk,zlH,← zmH ws hn k (by omega)]
  simp [bytesW,hv]
theorem zCD (a:List (List Int)) (ho:OkA a):arenaB a=rB a.flatten:=by
 unfold arenaB
 rw [zmH a.flatten (fun x hx=>by
  obtain ⟨s,hs,h⟩:=List.mem_flatten.1 hx
  exact ho.nums s hs x h) _ (Nat.le_refl _),List.take_length]
def E99 (e:Int):Prop:=0≤e∧e≤29
theorem e99_0:E99 0:=⟨by decide,by decide⟩
theorem zNE:E99 20:=⟨by decide,by decide⟩
theorem zuB:E99 23:=⟨by decide,by decide⟩
theorem zsD (x:Int):E99 (ptrDec x).2:=by
 unfold ptrDec
 repeat' split
 all_goals first | exact e99_0 | exact zuB
theorem zWD (a:List (List Int)) (s x:Int):E99 (wordA a s x).2:=by
 unfold wordA
 split
 ·exact e99_0
 ·exact zNE
theorem zgI (p:Pt):E99 (ptrWords p).2:=by
 unfold ptrWords
 repeat' split
 all_goals first | exact e99_0 | exact zuB
theorem zrH {wd:Int→Int→Int×Int} (h:∀ s x,E99 (wd s x).2) (s x:Int):E99 (ptrAt wd s x).2:=by
 unfold ptrAt
 split
 ·exact zsD _
 ·exact h _ _
theorem ztD (sz:List Int) (p:Pt) (s x:Int):E99 (foundP sz p s x).2:=by
 unfold foundP
 repeat' split
 ·exact e99_0
 ·exact zNE
 ·exact zgI _
theorem zuJ (sz:List Int) {wd:Int→Int→Int×Int} (h:∀ s x,E99 (wd s x).2) (p:Pt):E99 (landedP sz wd p).2:=by
 unfold landedP
 repeat' split
 ·exact ztD _ _ _ _
 ·exact zuB
 ·exact zrH h _ _
theorem zOL (sz:List Int) {wd:Int→Int→Int×Int} (h:∀ s x,E99 (wd s x).2) (p:Pt):E99 (twiceP sz wd p).2:=by
 unfold twiceP
 repeat' split
 ·exact ztD _ _ _ _
 ·exact zuB
 ·exact zsD _
 ·exact zsD _
 ·exact h _ _
 ·exact h _ _
theorem zND (sz:List Int) {wd:Int→Int→Int×Int} (h:∀ s x,E99 (wd s x).2) (s x:Int):E99 (followP sz wd s x).2:=by
 unfold followP
 repeat' split
 ·exact ztD _ _ _ _
 ·exact zOL _ h _
 ·exact zuJ _ h _
 ·exact zrH h _ _
theorem zsH {f:Int→Int→Tr×Int×Int} (hf:∀ x p,E99 (f x p).2.1) (at0 p0:Int):∀ k,E99 (kidsK f at0 p0 k).2.1
 | 0=>e99_0
 | k+1=>by
  unfold kidsK
  repeat' split
  ·exact e99_0
  ·exact hf _ _
  ·exact zsH hf at0 p0 k
theorem zwL (wd:Int→Int→Int×Int) {f:Int→Int→Int→Tr×Int×Int} (hf:∀ s x p,E99 (f s x p).2.1) (o:Ob) (p:Int):E99 (nodeT wd f o p).2.1:=by
 unfold nodeT
 have hk:=zsH (f:=f o.seg) (hf _) (if o.size=6 then o.at_ else o.at_+o.data) p (if o.size=6 then o.count else o.ptrs).toNat
 generalize kidsK (f o.seg) (if o.size=6 then o.at_ else o.at_+o.data) p (if o.size=6 then o.count else o.ptrs).toNat=K at hk ⊢
 by_cases h:K.2.1=0
 ·rw [if_pos h];exact e99_0
 ·rw [if_neg h];exact hk
theorem ztH (sz:List Int) {wd:Int→Int→Int×Int} (h:∀ s x,E99 (wd s x).2) (last:Bool) {f:Int→Int→Int→Tr×Int×Int} (hf:∀ s x p,E99 (f s x p).2.1) (s x p:Int):E99 (nodeS sz wd last f s x p).2.1:=by
 unfold nodeS
 repeat' split
 ·exact (show E99 21 from ⟨by decide,by decide⟩)
 ·exact (show E99 22 from ⟨by decide,by decide⟩)
 ·exact zwL _ hf _ _
 ·exact zND _ h _ _
theorem zuH (sz:List Int) {wd:Int→Int→Int×Int} (h:∀ s x,E99 (wd s x).2):∀ (l:Nat) (s x p:Int),E99 (nodeP sz wd l s x p).2.1
 | 0,s,x,p=>ztH sz h true (fun _ _ _=>e99_0) s x p
 | l+1,s,x,p=>ztH sz h false (zuH sz h l) s x p
theorem zEF (a:List (List Int)):0≤checkP a∧checkP a≤29:=by
 have hd:E99 (decP a).2:=by
  unfold decP
  split
  ·exact zuH _ (zWD a) _ _ _ _
  ·exact ⟨by decide,by decide⟩
 unfold checkP
 repeat' split
 ·exact e99_0
 ·exact zuB
 ·exact hd
end Go.Proofs.YtfkcpaahdlkcdaaGreat

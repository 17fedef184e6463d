import Derived.Test.YtfkcpaahdlkcdaaGreatRRecvReads38
set_option linter.unusedSimpArgs false
set_option linter.unusedVariables false
set_option maxRecDepth 100000
set_option maxHeartbeats 16000000
namespace Go.Proofs.YtfkcpaahdlkcdaaGreat
open Go.RowKit
theorem zSE {x:Int} {n i:Nat} (h:x=n) (hi:i<n):(i:Int)<x:=by omega
theorem zXD {x:Int} {n:Nat} (h:x=n):¬ ((n:Int)<x):=by omega
theorem QK.post {w:World} {A:Option Addr} {n ca:Nat} {paid er:Int} {O N:Nat} {o:Ob} {ws bs:List Int} {A1 A2 A3:Option Addr} {n1 c1 n2 c2 k c3:Nat} {rows:List (Tr×Value×Value×Value)} {c c':World} {S:Nat→Prop}
    (h:QK w A n ca paid er O N o ws bs (.slice A1 n1 c1) (.slice A2 n2 c2) k (.slice A3 k c3) rows c) (hn1:ws.length=n1) (hn2:bs.length=n2) (hk:Keep S c c') (hS:∀ j,S j→j≤N) (hw:n1≤10000000) (hb:n2≤10000000) (hm:k≤10000000) :
    TrB (.mk o.kind o.size ws bs (rows.map (·.1)))∧Foot (fun u=>TrR u (.mk o.kind o.size ws bs (rows.map (·.1))) (.slice A1 n1 c1) (.slice A2 n2 c2) (.slice A3 k c3)) c' (fun j=>w.heap.size≤j∧j<c'.heap.size):=by
 subst hn1
 subst hn2
 have hlo:=h.q.lo
 refine ⟨.mk hw hb (by rw [List.length_map,h.len];exact hm) (fun t ht=>by
  obtain ⟨r,hr,rfl⟩:=List.mem_map.1 ht
  exact h.trb r hr),?_⟩
 have f1:=h.foot.keep hk (fun j hj e=>by have:=hj.1;have:=hS j e;omega)
 have f2:=(Foot.of_own h.own).keep hk (fun j hj e=>by have:=(h.own.lt j hj).1;have:=hS j e;omega)
 have hs:=hk.size
 refine ((f1.and f2).imp (fun u hu=>by
  have h5:=hu.2
  rw [← h.len] at h5 ⊢
  exact .mk rows hu.1.1 hu.1.2.1 h5 hu.1.2.2)).mono (fun j hj=>hj.2) (fun j hj=>?_)
 rcases hj with hj | hj
 ·have:=hj.1;have:=hj.2.1;omega
 ·have:=h.own.lt j hj;omega
theorem QD.fin {w:World} {A:Option Addr} {n ca:Nat} {paid er:Int} {O N:Nat} {o:Ob} {vw vb vk:Value} {c:World} (h:QD w A n ca paid er O N o vw vb vk c) :
    (((((c.setCell ⟨w.heap.size+1,0,none⟩ (.slice A n ca)).setCell ⟨w.heap.size+1,1,none⟩ (.bool false)).setCell ⟨w.heap.size+1,2,none⟩ (.slice none 0 0)).setCell ⟨w.heap.size+1,3,none⟩ (.int .i64 paid)).setCell ⟨w.heap.size+1,4,none⟩ (.int .i64 er)).heap[w.heap.size+2]? = some (.cells qA 114 (0,0)) ∧
    ((((((((((c.setCell ⟨w.heap.size+1,0,none⟩ (.slice A n ca)).setCell ⟨w.heap.size+1,1,none⟩ (.bool false)).setCell ⟨w.heap.size+1,2,none⟩ (.slice none 0 0)).setCell ⟨w.heap.size+1,3,none⟩ (.int .i64 paid)).setCell ⟨w.heap.size+1,4,none⟩ (.int .i64 er)).setCell ⟨w.heap.size+2,0,none⟩ (.int .i64 o.kind)).setCell ⟨w.heap.size+2,1,none⟩ (.int .i64 o.size)).setCell ⟨w.heap.size+2,2,none⟩ vw).setCell ⟨w.heap.size+2,3,none⟩ vb).setCell ⟨w.heap.size+2,4,none⟩ vk).heap[w.heap.size+1]? = some (.cells #[.slice A n ca,qL,qI,.int .i64 paid,.int .i64 er] 216 (0,0)) ∧
    ((((((((((c.setCell ⟨w.heap.size+1,0,none⟩ (.slice A n ca)).setCell ⟨w.heap.size+1,1,none⟩ (.bool false)).setCell ⟨w.heap.size+1,2,none⟩ (.slice none 0 0)).setCell ⟨w.heap.size+1,3,none⟩ (.int .i64 paid)).setCell ⟨w.heap.size+1,4,none⟩ (.int .i64 er)).setCell ⟨w.heap.size+2,0,none⟩ (.int .i64 o.kind)).setCell ⟨w.heap.size+2,1,none⟩ (.int .i64 o.size)).setCell ⟨w.heap.size+2,2,none⟩ vw).setCell ⟨w.heap.size+2,3,none⟩ vb).setCell ⟨w.heap.size+2,4,none⟩ vk).heap[w.heap.size+2]? = some (.cells #[o.kind,o.size,vw,vb,vk] 114 (0,0)) ∧
    Grow w ((((((((((c.setCell ⟨w.heap.size+1,0,none⟩ (.slice A n ca)).setCell ⟨w.heap.size+1,1,none⟩ (.bool false)).setCell ⟨w.heap.size+1,2,none⟩ (.slice none 0 0)).setCell ⟨w.heap.size+1,3,none⟩ (.int .i64 paid)).setCell ⟨w.heap.size+1,4,none⟩ (.int .i64 er)).setCell ⟨w.heap.size+2,0,none⟩ (.int .i64 o.kind)).setCell ⟨w.heap.size+2,1,none⟩ (.int .i64 o.size)).setCell ⟨w.heap.size+2,2,none⟩ vw).setCell ⟨w.heap.size+2,3,none⟩ vb).setCell ⟨w.heap.size+2,4,none⟩ vk)∧Keep (fun j=>j≤N) c ((((((((((c.setCell ⟨w.heap.size+1,0,none⟩ (.slice A n ca)).setCell ⟨w.heap.size+1,1,none⟩ (.bool false)).setCell ⟨w.heap.size+1,2,none⟩ (.slice none 0 0)).setCell ⟨w.heap.size+1,3,none⟩ (.int .i64 paid)).setCell ⟨w.heap.size+1,4,none⟩ (.int .i64 er)).setCell ⟨w.heap.size+2,0,none⟩ (.int .i64 o.kind)).setCell ⟨w.heap.size+2,1,none⟩ (.int .i64 o.size)).setCell ⟨w.heap.size+2,2,none⟩ vw).setCell ⟨w.heap.size+2,3,none⟩ vb).setCell ⟨w.heap.size+2,4,none⟩ vk):=by
 have hlo:=h.lo
 obtain ⟨hs8,hg8⟩:=zY (.slice A n ca) (.bool false) (.slice none 0 0) (.int .i64 paid) (.int .i64 er) h.grow (by omega) h.d8
 have hk8:=zb (c:=c) (N:=w.heap.size+1) (.slice A n ca) (.bool false) (.slice none 0 0) (.int .i64 paid) (.int .i64 er)
 have hd98:=(hk8.block _ (gE h.d9).1 (by omega)).trans h.d9
 obtain ⟨hs9,hg9⟩:=zY (.int .i64 o.kind) (.int .i64 o.size) vw vb vk hg8 (by omega) hd98
 have hk9:=zb (c:=(((((c.setCell ⟨w.heap.size+1,0,none⟩ (.slice A n ca)).setCell ⟨w.heap.size+1,1,none⟩ (.bool false)).setCell ⟨w.heap.size+1,2,none⟩ (.slice none 0 0)).setCell ⟨w.heap.size+1,3,none⟩ (.int .i64 paid)).setCell ⟨w.heap.size+1,4,none⟩ (.int .i64 er))) (N:=w.heap.size+2) (.int .i64 o.kind) (.int .i64 o.size) vw vb vk
 have hs89:=(hk9.block _ (gE hs8).1 (by omega)).trans hs8
 exact ⟨hd98,hs89,hs9,hg9,(((Keep.refl (fun j=>j≤N) c).trans hk8 (fun j hj=>.inl (by omega))).trans hk9 (fun j hj=>.inl (by omega)))⟩
theorem QD.kid {w:World} {A:Option Addr} {n ca:Nat} {paid er:Int} {O N:Nat} {o:Ob} {vw vb vk:Value} {c:World} (h:QD w A n ca paid er O N o vw vb vk c) (p2 e2 k5 s5:Int) (x1 x2 x3:Value) :
    ((c.alloc (.cells #[.slice A n ca,qL,qI,.int .i64 p2,.int .i64 e2] 216)).alloc (.cells #[.int .i64 k5,.int .i64 s5,x1,x2,x3] 114)).heap[c.heap.size]? = some (.cells #[.slice A n ca,qL,qI,.int .i64 p2,.int .i64 e2] 216 (0,0)) ∧
    ((c.alloc (.cells #[.slice A n ca,qL,qI,.int .i64 p2,.int .i64 e2] 216)).alloc (.cells #[.int .i64 k5,.int .i64 s5,x1,x2,x3] 114)).heap[w.heap.size]? = some (.cells #[.slice A n ca,qL,qI,.int .i64 paid,.int .i64 er] 216 (0,0)) ∧
    (((((((c.alloc (.cells #[.slice A n ca,qL,qI,.int .i64 p2,.int .i64 e2] 216)).alloc (.cells #[.int .i64 k5,.int .i64 s5,x1,x2,x3] 114)).setCell ⟨w.heap.size,0,none⟩ (.slice A n ca)).setCell ⟨w.heap.size,1,none⟩ (.bool false)).setCell ⟨w.heap.size,2,none⟩ (.slice none 0 0)).setCell ⟨w.heap.size,3,none⟩ (.int .i64 p2)).setCell ⟨w.heap.size,4,none⟩ (.int .i64 e2)).heap[c.heap.size+1]? = some (.cells #[.int .i64 k5,.int .i64 s5,x1,x2,x3] 114 (0,0)) ∧
    QD w A n ca p2 e2 O N o vw vb vk (((((((c.alloc (.cells #[.slice A n ca,qL,qI,.int .i64 p2,.int .i64 e2] 216)).alloc (.cells #[.int .i64 k5,.int .i64 s5,x1,x2,x3] 114)).setCell ⟨w.heap.size,0,none⟩ (.slice A n ca)).setCell ⟨w.heap.size,1,none⟩ (.bool false)).setCell ⟨w.heap.size,2,none⟩ (.slice none 0 0)).setCell ⟨w.heap.size,3,none⟩ (.int .i64 p2)).setCell ⟨w.heap.size,4,none⟩ (.int .i64 e2)) ∧
    Keep (fun j=>j=w.heap.size) c (((((((c.alloc (.cells #[.slice A n ca,qL,qI,.int .i64 p2,.int .i64 e2] 216)).alloc (.cells #[.int .i64 k5,.int .i64 s5,x1,x2,x3] 114)).setCell ⟨w.heap.size,0,none⟩ (.slice A n ca)).setCell ⟨w.heap.size,1,none⟩ (.bool false)).setCell ⟨w.heap.size,2,none⟩ (.slice none 0 0)).setCell ⟨w.heap.size,3,none⟩ (.int .i64 p2)).setCell ⟨w.heap.size,4,none⟩ (.int .i64 e2))∧(((((((c.alloc (.cells #[.slice A n ca,qL,qI,.int .i64 p2,.int .i64 e2] 216)).alloc (.cells #[.int .i64 k5,.int .i64 s5,x1,x2,x3] 114)).setCell ⟨w.heap.size,0,none⟩ (.slice A n ca)).setCell ⟨w.heap.size,1,none⟩ (.bool false)).setCell ⟨w.heap.size,2,none⟩ (.slice none 0 0)).setCell ⟨w.heap.size,3,none⟩ (.int .i64 p2)).setCell ⟨w.heap.size,4,none⟩ (.int .i64 e2)).heap.size=c.heap.size+2:=by
 have hb:=h.big
 obtain ⟨l1,l2⟩:=h.lo
 obtain ⟨ha,hb0,hga⟩:=zU c (.cells #[.slice A n ca,qL,qI,.int .i64 p2,.int .i64 e2] 216) (.cells #[.int .i64 k5,.int .i64 s5,x1,x2,x3] 114)
 have hqa:=h.later hga
 have hk3:=zb (c:=((c.alloc (.cells #[.slice A n ca,qL,qI,.int .i64 p2,.int .i64 e2] 216)).alloc (.cells #[.int .i64 k5,.int .i64 s5,x1,x2,x3] 114))) (N:=w.heap.size) (.slice A n ca) (.bool false) (.slice none 0 0) (.int .i64 p2) (.int .i64 e2)
 have hq3:=hqa.putD p2 e2
 have hs23:=(hk3.block _ (gE hb0).1 (by omega)).trans hb0
 exact ⟨ha,hqa.d4,hs23,hq3,((hga.mono (T:=fun j=>j=w.heap.size) (fun _ h=>h.elim)).trans hk3 (fun j hj=>.inl hj)),by simp⟩
theorem QM.moved {w:World} {A:Option Addr} {n ca:Nat} {paid er:Int} {O N:Nat} {o:Ob} {ws bs:List Int} {vw vb:Value} {k:Nat} {vk:Value} {rows:List (Tr×Value×Value×Value)} {kid:Tr×Value×Value×Value} {c c':World} {p2 e2:Int}
    (h:QM w A n ca paid er O N o ws bs vw vb k vk rows kid c) (hq:QD w A n ca p2 e2 O N o vw vb vk c') (hk:Keep (fun j=>j=w.heap.size) c c'):QM w A n ca p2 e2 O N o ws bs vw vb k vk rows kid c':=by
 obtain ⟨l1,l2⟩:=h.q.lo
 exact ⟨hq,zF h.own hk (fun j hj e=>by have:=(h.own.lt j hj).1;omega),(h.foot.keep hk (fun j hj e=>by have:=hj.1;omega)).mono (fun j hj=>hj.2.1) (fun j hj=>⟨hj.1,Nat.lt_of_lt_of_le hj.2.1 hk.size,hj.2.2⟩)⟩
theorem QK.next {w:World} {A:Option Addr} {n ca:Nat} {pd p5 e5:Int} {O N:Nat} {o:Ob} {ws bs:List Int} {vw vb:Value} {k:Nat} {A6:Option Addr} {c6:Nat} {rows:List (Tr×Value×Value×Value)} {c c5 c6w c7:World} {f:Int→Int→Tr×Int×Int} {at0 P0:Int} {nk:Nat} {r:Tr×Int×Int} {A7:Option Addr} {c7':Nat} {k5 s5:Int} {x1 x2 x3:Value} {p:Prop}
    (h:QK w A n ca pd 0 O N o ws bs vw vb k (.slice A6 k c6) rows c) (hg:Grow c c5) (hq:QD w A n ca p5 e5 O N o vw vb (.slice A6 k c6) c6w) (hk:Keep (fun j=>j=w.heap.size) c5 c6w) (hr5:r.2.1=e5)
    (hE:kidsK f at0 P0 (k+1)=if r.2.1=0 then ((kidsK f at0 P0 k).1++[r.1],0,r.2.2) else ([],r.2.1,r.2.2)) (hm:rows.map (·.1)=(kidsK f at0 P0 k).1) (hkn:k+1≤nk)
    (hres:e5=0→p5=r.2.2∧k5=r.1.kind∧s5=r.1.size∧TrB r.1∧Foot (fun u=>TrR u r.1 x1 x2 x3) c5 (fun j=>c.heap.size≤j∧j<c5.heap.size))
    (hap:Apped (N+1) 114 5 (.slice A6 k c6) (.slice A7 (k+1) c7') (k+1) (kcs rows++[.int .i64 k5,.int .i64 s5,x1,x2,x3]) (c6w.alloc (.cells #[.int .i64 k5,.int .i64 s5,x1,x2,x3] 114)) c7 p) :
    QD w A n ca p5 e5 O N o vw vb (.slice A6 k c6) c7 ∧
    ((e5=0∧k+1=k+1∧∃ rows,QK w A n ca (kidsK f at0 P0 (k+1)).2.2 0 O N o ws bs vw vb (k+1) (.slice A7 (k+1) c7') rows (c7.setCell ⟨N,4,none⟩ (.slice A7 (k+1) c7'))∧rows.map (·.1)=(kidsK f at0 P0 (k+1)).1∧(kidsK f at0 P0 (k+1)).2.1=0) ∨
     (e5≠0∧(∃ pd,QD w A n ca pd e5 O N o vw vb (.slice A7 (k+1) c7') (c7.setCell ⟨N,4,none⟩ (.slice A7 (k+1) c7')))∧(kidsK f at0 P0 nk).2.1=e5)):=by
 have hga:=(Keep.refl NoB c6w).alloc (.cells #[.int .i64 k5,.int .i64 s5,x1,x2,x3] 114)
 by_cases he:e5=0
 ·obtain ⟨rfl,rfl,rfl,htb,hft⟩:=hres he
  subst he
  have hM:=((h.called hg hft).moved hq hk).grow hga
  rw [if_pos hr5] at hE
  have hn:=hM.appended hap h.len (fun q hq=>by
   rcases List.mem_append.1 hq with e | e
   ·exact h.trb q e
   ·rw [List.mem_singleton.1 e];exact htb)
  rw [hE]
  exact ⟨hn.2,.inl ⟨rfl,rfl,_,hn.1,by rw [List.map_append,hm];rfl,rfl⟩⟩
 ·have hv:∀ j,(Value.slice A6 k c6).ownBlock=some j→N<j:=fun j hj=>(h.own.lt j hj).1
  have hkk:Keep (fun j=>(Value.slice A6 k c6).ownBlock=some j) (c6w.alloc (.cells #[.int .i64 k5,.int .i64 s5,x1,x2,x3] 114)) c7:=(Keep.refl _ _).grown hap.grew (fun j hj=>.inl hj)
  have hq7:=(hq.later hga).keep (hkk.mono (fun j hj=>hv j hj))
  rw [if_neg (by rw [hr5];exact he)] at hE
  have h1:(kidsK f at0 P0 (k+1)).2.1=e5:=by rw [hE];exact hr5
  exact ⟨hq7,.inr ⟨he,⟨_,hq7.put4 _⟩,by rw [zqC f at0 P0 (by rw [h1];exact he) hkn];exact h1⟩⟩
structure Sizes3 (o:Ob) (nw nb nk:Nat):Prop where
 w:(if o.size=5 then o.count else o.data)=nw
 b:(if o.size=2 then o.count else 0)=nb
 k:(if o.size=6 then o.count else o.ptrs)=nk
theorem zTE (last : Bool) (f : Int → Int → Int → Tr × Int × Int) (a : List (List Int)) (ho : OkA a) (A : Option Addr) (c : Nat) (w : World) (h : RowsR .u64 a (.slice A a.length c) w) (seg at_ paid deep : Int) (p0 : 0 ≤ paid) (p1 : paid ≤ 8192) (hl : last = decide (32 ≤ deep)) (hd0 : 0 ≤ deep) (hd1 : deep ≤ 32) (IH : Hid (last = false → ∀ (seg at_ paid : Int) (w : World), RowsR .u64 a (.slice A a.length c) w → 0 ≤ paid → paid ≤ 8192 → Calls Tryz.prog 142 #[.agg #[.slice A a.length c, .bool false, .slice none 0 0, .int .i64 paid, .int .i64 0], .int .i64 seg, .int .i64 at_, .int .i64 (deep + 1)] w (QNPost A a.length c (f seg at_ paid) w))) (hfp : ∀ s x p, 0 ≤ p → p ≤ 8192 → (f s x p).2.1 = 0 → 0 ≤ (f s x p).2.2 ∧ (f s x p).2.2 ≤ 8192) (hfe : (followP (szs a) (wordA a) seg at_).2 = 0) (hno : ¬ ((followP (szs a) (wordA a) seg at_).1.kind ≠ 0 ∧ last = true)) (hc : ¬ (8192 < paid + (1 + obWords (followP (szs a) (wordA a) seg at_).1))) :
    Calls Tryz.prog 142 #[.agg #[.slice A a.length c,qL,qI,.int .i64 paid,qJ],.int .i64 seg,.int .i64 at_,.int .i64 deep] w (QNPost A a.length c (nodeS (szs a) (wordA a) last f seg at_ paid) w):=by
 have E0:Hid (nodeS (szs a) (wordA a) last f seg at_ paid=nodeT (wordA a) f (followP (szs a) (wordA a) seg at_).1 (paid+(1+obWords (followP (szs a) (wordA a) seg at_).1))):=LH (by
  unfold nodeS
  rw [if_pos hfe,if_neg hno,if_neg hc])
 have HR0:=LH h
 have HNO:=LH (show ¬ ((followP (szs a) (wordA a) seg at_).1.kind≠0∧32≤deep) from fun x=>hno ⟨x.1,by rw [hl];simpa using x.2⟩)
 have HLS:Hid ((followP (szs a) (wordA a) seg at_).1.kind≠0→last=false):=LH (fun hk=>by
  cases last
  ·rfl
  ·exact absurd ⟨hk,rfl⟩ hno)
 have HFP:=LH hfp
 clear hno hfp hl
 have h2:=zU w (.cells #[.slice A a.length c,qL,qI,.int .i64 paid,qJ] 216) (.cells qF 216)
 have hsz2:((w.alloc (.cells #[.slice A a.length c,qL,qI,.int .i64 paid,qJ] 216)).alloc (.cells qF 216)).heap.size=w.heap.size+2:=by simp
 have hz:=heap_alloc_new ((w.alloc (.cells #[.slice A a.length c,qL,qI,.int .i64 paid,qJ] 216)).alloc (.cells qF 216)) (.cells qA 114)
 rw [hsz2] at hz
 have hgl:=(Keep.refl NoB ((w.alloc (.cells #[.slice A a.length c,qL,qI,.int .i64 paid,qJ] 216)).alloc (.cells qF 216))).alloc (.cells qA 114)
 have HD4:=LH (Grow.heap hgl h2.1)
 have HD8:=LH (Grow.heap hgl h2.2.1)
 have HD9:=LH hz
 have hg0:=h2.2.2.grow hgl
 have HG:=LH hg0
 have H:=LH (h.grow hg0)
 have HA:=LH ho
 have HOI:=LH (zd (zi ho) seg at_)
 have HFW:=LH (zJA a ho A c _ (h.grow hg0) seg at_)
 obtain ⟨c0,c1,c2,c3,c4,cf⟩:=zA HD4.out
 clear h ho h2 hsz2 hz hgl hg0
 go_enter Tryz.func142,Tryz.ntmps142
 go_wp2_with fail
 refine HFW.out.mono ?_
 rintro e w1 ⟨rfl,hg⟩
 generalize (followP (szs a) (wordA a) seg at_).1=o at *
 generalize (followP (szs a) (wordA a) seg at_).2=fe at *
 have hgo:=(Keep.refl NoB w1).alloc (.cells o 257)
 have HOB:=LH (heap_alloc_new w1 (.cells o 257))
 have hd9:=Grow.heap hg HD9.out
 have hlo:w.heap.size+2<w1.heap.size:=(gE hd9).1
 have HLO:=LH hlo
 replace HD4:=LH (Grow.heap (hg.grow hgo) HD4.out)
 replace HD8:=LH (Grow.heap (hg.grow hgo) HD8.out)
 replace HD9:=LH (Grow.heap hgo hd9)
 replace HG:=LH (HG.out.grow (hg.grow hgo))
 replace H:=LH (H.out.grow (hg.grow hgo))
 have hne1:w1.heap.size≠w.heap.size:=by omega
 have hne2:w.heap.size≠w1.heap.size:=by omega
 clear hg hgo hd9 hlo c0 c1 c2 c3 c4 cf HFW
 obtain ⟨c0,c1,c2,c3,c4,cf⟩:=zA HD4.out
 obtain ⟨o0,o1,o2,o3,o4,o5,o6,of⟩:=zC HOB.out
 have how:=za HOI.out
 have hs1:IntKind.i64.wrap (1+obWords o)=1+obWords o:=IntWalk.i64_in _ (by omega)
 have hs2:IntKind.i64.wrap (paid+(1+obWords o))=paid+(1+obWords o):=IntWalk.i64_in _ (by omega)
 have heb:(fe==0)=true:=by simpa using hfe
 have hen:(fe != 0)=false:=by simpa using hfe
 have hcost:¬ (8192<(paid+(1+obWords o))):=by omega
 have hP0:0≤(paid+(1+obWords o)):=by omega
 have HP01:Hid (0≤(paid+(1+obWords o))∧(paid+(1+obWords o))≤8192):=LH ⟨hP0,by omega⟩
 clear hfe hc how hP0
 have hcases:(o.kind=0∧o.size=0∧o.data=0∧o.ptrs=0∧o.count=0)∨(o.kind=1∧o.size=0∧o.count=0)∨(o.kind=2∧o.size=2∧o.data=0∧o.ptrs=0)∨(o.kind=2∧o.size=5∧o.data=0∧o.ptrs=0)∨(o.kind=2∧o.size=6∧o.data=0∧o.ptrs=0):=by
  rcases HOI.out.cases with h | ⟨h1,h2,h3,_⟩ | ⟨h1,h2,h3,h4⟩
  ·exact .inl (by rw [h];exact ⟨rfl,rfl,rfl,rfl,rfl⟩)
  ·exact .inr (.inl ⟨h1,h2,h3⟩)
  ·rcases h4 with ⟨s,_⟩ | ⟨s,_⟩ | ⟨s,_⟩
   ·exact .inr (.inr (.inl ⟨h1,s,h2,h3⟩))
   ·exact .inr (.inr (.inr (.inl ⟨h1,s,h2,h3⟩)))
   ·exact .inr (.inr (.inr (.inr ⟨h1,s,h2,h3⟩)))
 have HCS:=LH hcases
 have hnums:=HOI.out.ok
 obtain ⟨nw,hnw⟩:∃ nw:Nat,(if o.size=5 then o.count else o.data)=(nw:Int):=⟨(if o.size=5 then o.count else o.data).toNat,by have:=hnums.d;have:=hnums.c;split <;> omega⟩
 obtain ⟨nb,hnb⟩:∃ nb:Nat,(if o.size=2 then o.count else 0)=(nb:Int):=⟨(if o.size=2 then o.count else 0).toNat,by have:=hnums.c;split <;> omega⟩
 obtain ⟨nk,hnk⟩:∃ nk:Nat,(if o.size=6 then o.count else o.ptrs)=(nk:Int):=⟨(if o.size=6 then o.count else o.ptrs).toNat,by have:=hnums.q;have:=hnums.c;split <;> omega⟩
 have HSZ:=LH (Sizes3.mk hnw hnb hnk)
 clear hnums hnw hnb hnk
 -- the tests that the code makes, case by case
 rcases hcases with ⟨hk,hs,hda,hpt,hct⟩ | ⟨hk,hs,hct⟩ | ⟨hk,hs,hda,hpt⟩ | ⟨hk,hs,hda,hpt⟩ | ⟨hk,hs,hda,hpt⟩
 all_goals
  first
  | (have HWV:Hid (o.count=(nw:Int)):=LH (by have h:=HSZ.out.w;rw [hs] at h;simpa using h))
  | (have HWV:Hid (o.data=(nw:Int)):=LH (by have h:=HSZ.out.w;rw [hs] at h;simpa using h))
  first
  | (have HKV:Hid (o.count=(nk:Int)):=LH (by have h:=HSZ.out.k;rw [hs] at h;simpa using h))
  | (have HKV:Hid (o.ptrs=(nk:Int)):=LH (by have h:=HSZ.out.k;rw [hs] at h;simpa using h))
  first
  | (have HBV:Hid (o.size=2∧o.count=(nb:Int)):=LH ⟨hs.trans (by decide),by have h:=HSZ.out.b;rw [hs] at h;simp at h;omega⟩)
  | (have HBZ:Hid (nb=0):=LH (by have h:=HSZ.out.b;rw [hs] at h;simp at h;omega))
  first
  | (have HC0:Hid (o.count=0):=LH hct)
  | skip
  first
  | (have HKZ:Hid (nk=0):=LH (by have h:=HKV.out;omega))
  | (have HVV:Hid (IntKind.i64.wrap (o.data*(2-o.kind))=o.data∧(if o.size=6 then o.at_ else o.at_+o.data)=o.at_+o.data∧o.kind≠0∧IntKind.i64.wrap (2-o.kind)=2-o.kind):=LH ⟨by rw [hk];rw [show o.data*(2-1)=o.data from by omega];exact IntWalk.i64_in _ (by have:=HOI.out.ok.d;omega),by rw [hs];rfl,by rw [hk];decide,by rw [hk];rfl⟩)
  | (have HVV:Hid (IntKind.i64.wrap (o.data*(2-o.kind))=0∧(if o.size=6 then o.at_ else o.at_+o.data)=o.at_+0∧o.kind≠0∧IntKind.i64.wrap (2-o.kind)=2-o.kind):=LH ⟨by rw [hk,hda];rfl,by rw [hs,if_pos (by decide)];omega,by rw [hk];decide,by rw [hk];rfl⟩)
  first | (have hk2:(o.kind==2)=true:=by rw [hk];decide) | (have hk2:(o.kind==2)=false:=by rw [hk];decide)
  first | (have hkb:(o.kind != 0)=true:=by rw [hk];decide) | (have hkb:(o.kind != 0)=false:=by rw [hk];decide)
  first | (have hs5:(o.size==5)=true:=by rw [hs];decide) | (have hs5:(o.size==5)=false:=by rw [hs];decide)
  first | (have hs6:(o.size==6)=true:=by rw [hs];decide) | (have hs6:(o.size==6)=false:=by rw [hs];decide)
  first | (have hs2:(o.size==2)=true:=by rw [hs];decide) | (have hs2:(o.size==2)=false:=by rw [hs];decide)
  have hdeep:o.kind=0∨¬ (32≤deep):=by
   by_cases h0:o.kind=0
   ·exact .inl h0
   ·exact .inr (fun h=>HNO.out ⟨h0,h⟩)
  rw [hk] at hdeep
  first | (have hdq:¬ (32≤deep):=hdeep.resolve_left (by decide)) | skip
  clear hdeep
  have HKD:=LH (And.intro hk hs)
  clear hk hs
  first | clear hda hpt hct | clear hct | clear hda hpt
  go_wp2
  refine zE [0,1,2,3,4,5,6,7] [3,7] [1,2] [7] rfl (by kernel_rfl) ?_
  refine ord_p ?_
  refine oc1 c3 ?_
  refine oc7 o0 o1 o2 o3 o4 o5 o6 ?_
  refine zG rfl rfl rfl rfl rfl Tryz.func174 rfl rfl [.agg o] rfl ?_
  refine (show Calls Tryz.prog 174 #[.agg o] _ (fun e w'=>e=.returned (.int .i64 (obWords o))∧Grow _ w') from zRA o _ HOI.out.ok).mono ?_
  rintro e w3 ⟨rfl,hg⟩
  refine ⟨_,rfl,fun _=>hg,?_⟩
  have hgd:Grow (w1.alloc (.cells o 257)) w3:=(Keep.refl NoB (w1.alloc (.cells o 257))).drew.grow hg
  replace HD4:=LH (Grow.heap hgd HD4.out)
  replace HD8:=LH (Grow.heap hgd HD8.out)
  replace HD9:=LH (Grow.heap hgd HD9.out)
  replace HOB:=LH (Grow.heap hgd HOB.out)
  replace HG:=LH (HG.out.grow hgd)
  replace H:=LH (H.out.grow hgd)
  clear hg hgd c0 c1 c2 c3 c4 cf o0 o1 o2 o3 o4 o5 o6 of
  simp only [Act.put,pB,pC,pD]
  iterate 3
   refine ord_p ?_
  obtain ⟨c0,c1,c2,c3,c4,cf⟩:=zA HD4.out
  refine zJ rfl rfl rfl rfl ?_ ?_ (fun h=>absurd (by simp) h) ?_
  rotate_left
  ·go_simp;with_reducible rfl
  refine zD ?_
  have hk:Keep (fun j=>j=w.heap.size) w3 (w3.setCell ⟨w.heap.size,3,none⟩ (.int .i64 (paid+(1+obWords o)))):=(Keep.refl (fun j=>j=w.heap.size) w3).setCell (p:=⟨w.heap.size,3,none⟩) (.inl rfl) _
  have hd4:(w3.setCell ⟨w.heap.size,3,none⟩ (.int .i64 (paid+(1+obWords o)))).heap[w.heap.size]? = some (.cells #[.slice A a.length c,qL,qI,.int .i64 (paid+(1+obWords o)),qJ] 216 (0,0)):=by
   have h0:=HD4.out
   simp only [World.setCell,Array.getElem?_modify]
   simp [h0]
  replace HD8:=LH ((hk.block _ (gE HD8.out).1 (by omega)).trans HD8.out)
  replace HD9:=LH ((hk.block _ (gE HD9.out).1 (by omega)).trans HD9.out)
  replace HOB:=LH ((hk.block _ (gE HOB.out).1 (by have:=HLO.out;omega)).trans HOB.out)
  replace HG:=LH (HG.out.setCell (p:=⟨w.heap.size,3,none⟩) (.inr (Nat.le_refl _)) (.int .i64 (paid+(1+obWords o))))
  replace HD4:=LH hd4
  clear hk hd4 c0 c1 c2 c3 c4 cf
  revert HD4 HD8 HD9 HOB HG
  generalize w3.setCell ⟨w.heap.size,3,none⟩ (.int .i64 (paid+(1+obWords o)))=w4
  intro HD8 HD9 HOB HG HD4
  have hgn:=(Keep.refl NoB w4).alloc (.cells #[o.kind,o.size,qI,qI,qI] 114)
  have hob4:=HOB.out
  have hlo4:w1.heap.size<w4.heap.size:=(gE hob4).1
  have HQ:Hid (QD w A a.length c (paid+(1+obWords o)) 0 w1.heap.size w4.heap.size o (.slice none 0 0) (.slice none 0 0) (.slice none 0 0) (w4.alloc (.cells #[o.kind,o.size,qI,qI,qI] 114))) :=
   LH ⟨Grow.heap hgn HD4.out,Grow.heap hgn HD8.out,Grow.heap hgn HD9.out,Grow.heap hgn hob4,heap_alloc_new w4 _,HG.out.grow hgn,HLO.out,hlo4⟩
  obtain ⟨c0,c1,c2,c3,c4,cf⟩:=zA HD4.out
  obtain ⟨o0,o1,o2,o3,o4,o5,o6,of⟩:=zC hob4
  have hneO:w4.heap.size≠w1.heap.size:=by omega
  have hneO2:w1.heap.size≠w4.heap.size:=by omega
  obtain ⟨e0,e1,e2,e3,e4,e5,e6,ef⟩:=zC HQ.out.ob
  clear hgn hob4 hlo4 HD4 HD8 HD9 HOB
  have hat0:=HOI.out.at0
  have hat1:o.at_≤100000:=by
   have:=HOI.out.ok
   rcases HOI.out.cases with h | ⟨_,_,_,h⟩ | ⟨_,_,_,h⟩
   ·rw [h];decide
   ·have:=HOI.out.ok.d;have:=HOI.out.ok.q;omega
   ·have:=HOI.out.ok.c;rcases h with ⟨_,h⟩ | ⟨_,h⟩ | ⟨_,h⟩ <;> omega
  have hnw9:nw≤600000000:=by have:=HOI.out.ok.d;have:=HOI.out.ok.c;have:=HWV.out;omega
  have hnk9:nk≤600000000:=by have:=HOI.out.ok.q;have:=HOI.out.ok.c;have:=HKV.out;omega
  have hnb9:nb≤600000000:=by
   have:=HOI.out.ok.c
   first
   | (have:=HBV.out.2;omega)
   | (have:=HBZ.out;omega)
  have HLM:Hid (nw≤10000000∧nb≤10000000∧nk≤10000000):=LH (by
   have h1:=HOI.out.ok.d
   have h2:=HOI.out.ok.q
   have h3:=HOI.out.ok.c
   have h6:=HOI.out.at0
   have h4:o.count≤1000000:=by
    rcases HOI.out.cases with h | ⟨_,_,h,_⟩ | ⟨_,_,_,h⟩
    ·rw [h];decide
    ·omega
    ·rcases h with ⟨_,h⟩ | ⟨_,h⟩ | ⟨_,h⟩ <;> omega
   have h5:=HWV.out
   have h7:=HKV.out
   first
   | (have h8:=HBV.out.2;omega)
   | (have h8:=HBZ.out;omega))
  clear hs1
  go_wp2_with fail
  clear c0 c1 c2 c3 c4 cf o0 o1 o2 o3 o4 o5 o6 of e0 e1 e2 e3 e4 e5 e6 ef hcost heb hen hkb hk2 hs5 hs6
  go_loopw [15,16,17] (fun v v16 v17 wr=>∃ i:Nat,i≤nw∧v=.int .i64 i∧∃ A4 c4,Hid (QD w A a.length c (paid+(1+obWords o)) 0 w1.heap.size w4.heap.size o (.slice A4 i c4) (.slice none 0 0) (.slice none 0 0) wr∧wr.ownsRow (w4.heap.size+1) 22 1 (.slice A4 i c4) i (u64s (wordsP (wordA a) o.seg o.at_ i)))) (fun v _ _ _=>nw-(intOf v).toNat)
  case atStart=>exact ⟨0,by omega,rfl,none,0,HQ.out,by simpa [wordsP,u64s] using World.ownsRow_nil _ (w4.heap.size+1) 22 1⟩
  case round =>
   obtain ⟨i,hi,rfl,A4,c4',HW⟩:=hrel
   obtain ⟨c0,c1,c2,c3,c4,cf⟩:=zA HW.out.1.d4
   obtain ⟨o0,o1,o2,o3,o4,o5,o6,of⟩:=zC HW.out.1.ob
   obtain ⟨n0,n1,n2,n3,n4,nf⟩:=zA HW.out.1.nd
   by_cases hlt:i<nw
   ·have hw:IntKind.i64.wrap ((i:Int)+1)=(i:Int)+1:=IntWalk.i64_in _ (by omega)
    have hwat:IntKind.i64.wrap (o.at_+(i:Int))=o.at_+(i:Int):=IntWalk.i64_in _ (by omega)
    have hl1:=zSE HWV.out hlt
    have E1:=LH (zcD (wordA a) o.seg o.at_ i)
    go_wp2_with fail
    refine (zqA a HA.out A c wr (HR0.out.grow HW.out.1.grow) o.seg (o.at_+(i:Int))).mono ?_
    rintro e w6 ⟨rfl,hg⟩
    have HW6:=LH (And.intro (HW.out.1.later hg) (zF HW.out.2 hg (fun _ _ h=>h)))
    generalize wordA a o.seg (o.at_+(i:Int))=X at E1 ⊢
    clear hg c0 c1 c2 c3 c4 cf o0 o1 o2 o3 o4 o5 o6 of n0 n1 n2 n3 n4 nf
    obtain ⟨n0,n1,n2,n3,n4,nf⟩:=zA HW6.out.1.nd
    have HBG:Hid (w4.heap.size+1≤w6.heap.size):=LH HW6.out.1.big
    go_wp2_with (at_builtin;refine zL _ rfl _ _ 111 111 rfl (w4.heap.size+1) 22 (.int .u64 0) 1 8 zCA zj rfl (.slice A4 i c4') i (u64s (wordsP (wordA a) o.seg o.at_ i)) rfl (.slice (some ⟨w6.heap.size,0,none⟩) 1 1) 1 [.int .u64 X.1] rfl ?_ (by exact zF HW6.out.2 ((Keep.refl NoB w6).alloc _) (fun _ _ h=>h)) (by exact Src.ofSlice _ zCA ⟨w6.heap.size,0,none⟩ 1 1 _ rfl (World.news_of_block (cs:=#[.int .u64 X.1]) (t:=22) (fr:=(0,0)) (heap_alloc_new w6 _)) (by simp [Value.oneCell'])) (by simp only [maxLen];omega) (by omega) (by have:=HBG.out;simp;omega);intro v7 w7 hap;refine Hid.out ?_)
    refine LH ?_
    have hk7:=((Keep.refl (fun j=>w4.heap.size<j) w6).alloc (.cells #[.int .u64 X.1] 22)).grown hap.grew (fun k hk=>.inl (HW6.out.2.lt k hk).1)
    have hq7:=HW6.out.1.keep hk7
    have Ho7:=LH hap.own
    obtain ⟨A7,c7,rfl,_⟩:=zK hap.own
    rw [← E1.out] at Ho7
    have HF:=LH (And.intro (hq7.put2 (.slice A7 (i+1) c7)) (zeA Ho7.out (Nat.lt_succ_self w4.heap.size) 2 (.slice A7 (i+1) c7)))
    clear hap hk7 n0 n1 n2 n3 n4 nf
    obtain ⟨n0,n1,n2,n3,n4,nf⟩:=zA hq7.nd
    clear hq7
    go_wp2
    go_roundw
    case rel=>exact ⟨i+1,by omega,by go_num,A7,c7,HF⟩
    case measure=>simp [intOf];omega
   ·obtain rfl : i = nw := by omega
    have hl1:=zXD HWV.out
    clear hlt hi
    obtain ⟨wo,rfl⟩:∃ wo:World,wo=wr:=⟨_,rfl⟩
    have HBW:Hid (w4.heap.size<wo.heap.size):=LH HW.out.1.big
    first
    | (have h9:=HBV.out;clear h9)
    | (have h9:=HC0.out;clear h9)
    | (rcases Decidable.em (0<o.count) with hcp | hcp)
    all_goals
     go_wp2_with fail
     clear c0 c1 c2 c3 c4 cf o0 o1 o2 o3 o4 o5 o6 of n0 n1 n2 n3 n4 nf hl1
     go_loopw [18,19,20,21] (fun v v19 v20 v21 wr=>∃ b:Nat,b≤nb∧v=.int .i64 b∧∃ A5 c5,Hid (QD w A a.length c (paid+(1+obWords o)) 0 w1.heap.size w4.heap.size o (.slice A4 i c4') (.slice A5 b c5) (.slice none 0 0) wr∧Keep (fun j=>wo.heap.size≤j∨j=w4.heap.size) wo wr∧wr.ownsRow wo.heap.size 5 1 (.slice A5 b c5) b (u8s (bytesP (wordA a) o.seg o.at_ b)))) (fun v _ _ _ _=>nb-(intOf v).toNat)
     case atStart=>exact ⟨0,by omega,rfl,none,0,HW.out.1,Keep.refl _ _,by rw [zxB];exact World.ownsRow_nil _ wo.heap.size 5 1⟩
     case round =>
      obtain ⟨b,hb,rfl,A5,c5',HB⟩:=hrel
      obtain ⟨c0,c1,c2,c3,c4,cf⟩:=zA HB.out.1.d4
      obtain ⟨o0,o1,o2,o3,o4,o5,o6,of⟩:=zC HB.out.1.ob
      obtain ⟨n0,n1,n2,n3,n4,nf⟩:=zA HB.out.1.nd
      by_cases hbt:b<nb
      ·first
       | exact absurd hbt (by have:=HBZ.out;omega)
       | skip
       all_goals
        have hwb:IntKind.i64.wrap ((b:Int)+1)=(b:Int)+1:=IntWalk.i64_in _ (by omega)
        have hb0:0≤(b:Int):=by omega
        have hwd:IntKind.i64.wrap ((b:Int)/8)=(b:Int)/8:=IntWalk.i64_in _ (by omega)
        have hwat:IntKind.i64.wrap (o.at_+(b:Int)/8)=o.at_+(b:Int)/8:=IntWalk.i64_in _ (by omega)
        have hl1:=zSE HBV.out.2 hbt
        have E1:Hid (u8s (bytesP (wordA a) o.seg o.at_ (b+1))=u8s (bytesP (wordA a) o.seg o.at_ b)++[.int .u8 ((wordA a o.seg (o.at_+(b:Int)/8)).1/2 ^ (8*(b%8))%256)]):=LH (by
         rw [zpI]
         unfold byteR
         rw [show ((b/8:Nat):Int)=(b:Int)/8 from by omega])
        have HXB:=LH ((zi HA.out).val o.seg (o.at_+(b:Int)/8))
        go_wp2_with fail
        refine (zqA a HA.out A c wr (HR0.out.grow HB.out.1.grow) o.seg (o.at_+(b:Int)/8)).mono ?_
        rintro e w6 ⟨rfl,hg⟩
        have HB6:=LH (And.intro (HB.out.1.later hg) (And.intro (HB.out.2.1.grow hg) (zF HB.out.2.2 hg (fun _ _ h=>h))))
        generalize wordA a o.seg (o.at_+(b:Int)/8)=X at E1 HXB ⊢
        clear hg c0 c1 c2 c3 c4 cf o0 o1 o2 o3 o4 o5 o6 of n0 n1 n2 n3 n4 nf
        go_wp2_with fail
        go_loopw [19,21] (fun v19 v wr=>wr=w6∧∃ (k:Nat) (y:Int),k≤b%8∧v=.int .i64 k∧v19=.int .u64 y∧y=X.1/2 ^ (8*k)∧0≤y∧y≤18446744073709551615) (fun _ v _=>b%8-(intOf v).toNat)
        case atStart=>exact ⟨rfl,0,X.1,by omega,rfl,rfl,by simp,HXB.out.1,HXB.out.2⟩
        case round =>
         obtain ⟨rfl,k,y,hk,rfl,rfl,hy,y0,y1⟩:=hrel
         have HY:=LH hy
         clear hy
         by_cases hkt:k<b%8
         ·have hwk:IntKind.i64.wrap ((k:Int)+1)=(k:Int)+1:=IntWalk.i64_in _ (by omega)
          have hkt':(k:Int)<(b:Int)%8:=by omega
          go_wp2
          go_roundw
          case rel =>
           refine ⟨trivial,k+1,y/256,by omega,by go_num,rfl,?_,by omega,by omega⟩
           rw [zvE,HY.out]
          case measure=>simp [intOf];omega
         ·obtain rfl:k=b%8:=by omega
          have hkt':¬ (((b%8:Nat):Int)<(b:Int)%8):=by omega
          have hy2:0≤y%256:=by omega
          have hy3:y%256≤255:=by omega
          rw [← HY.out] at E1
          obtain ⟨n0,n1,n2,n3,n4,nf⟩:=zA HB6.out.1.nd
          have HBG:Hid (wo.heap.size≤wr.heap.size):=LH HB6.out.2.1.size
          clear hkt hk
          go_wp2_with (at_builtin;refine zL _ rfl _ _ 23 23 rfl wo.heap.size 5 (.int .u8 0) 1 1 zW zz rfl (.slice A5 b c5') b (u8s (bytesP (wordA a) o.seg o.at_ b)) rfl (.slice (some ⟨wr.heap.size,0,none⟩) 1 1) 1 [.int .u8 (y%256)] rfl ?_ (by exact zF HB6.out.2.2 ((Keep.refl NoB wr).alloc _) (fun _ _ h=>h)) (by exact Src.ofSlice _ zW ⟨wr.heap.size,0,none⟩ 1 1 _ rfl (World.news_of_block (cs:=#[.int .u8 (y%256)]) (t:=5) (fr:=(0,0)) (heap_alloc_new wr _)) (by simp [Value.oneCell'])) (by simp only [maxLen];omega) (by omega) (by have:=HBG.out;simp;omega);intro v7 w7 hap;refine Hid.out ?_)
          refine LH ?_
          have hk7:=((Keep.refl (fun j=>wo.heap.size≤j) wr).alloc (.cells #[.int .u8 (y%256)] 5)).grown hap.grew (fun k hk=>.inl (HB6.out.2.2.lt k hk).1)
          have hq7:=HB6.out.1.keep (hk7.mono (fun j hj=>by have:=HBW.out;omega))
          have Ho7:=LH hap.own
          obtain ⟨A7,c7,rfl,_⟩:=zK hap.own
          rw [← E1.out] at Ho7
          have hkN:Keep (fun j=>j=w4.heap.size) w7 (w7.setCell ⟨w4.heap.size,3,none⟩ (.slice A7 (b+1) c7)):=(Keep.refl (fun j=>j=w4.heap.size) w7).setCell (p:=⟨w4.heap.size,3,none⟩) (.inl rfl) _
          have HF:=LH (And.intro (hq7.put3 (.slice A7 (b+1) c7)) (And.intro ((HB6.out.2.1.trans hk7 (fun j hj=>.inl (.inl hj))).trans hkN (fun j hj=>.inl (.inr hj))) (zeA Ho7.out HBW.out 3 (.slice A7 (b+1) c7))))
          clear hap hk7 hkN n0 n1 n2 n3 n4 nf
          obtain ⟨n0,n1,n2,n3,n4,nf⟩:=zA hq7.nd
          clear hq7
          go_wp2
          go_roundw
          case rel=>exact ⟨b+1,by omega,by go_num,A7,c7,HF⟩
          case measure=>simp [intOf];omega
      ·obtain rfl:b=nb:=by omega
       first
       | (have hx:¬ ((b:Int)<o.count):=zXD HBV.out.2)
       | (have hx:¬ ((b:Int)<o.count):=by have:=HBZ.out;have:=HC0.out;omega)
       | (have hx:(b:Int)<o.count:=by have:=HBZ.out;omega)
       | (have hx:¬ ((b:Int)<o.count):=by have:=HBZ.out;omega)
       clear hbt hb
       have HK0:Hid (QK w A a.length c (paid+(1+obWords o)) 0 w1.heap.size w4.heap.size o (wordsP (wordA a) o.seg o.at_ i) (bytesP (wordA a) o.seg o.at_ b) (.slice A4 i c4') (.slice A5 b c5') 0 (.slice none 0 0) [] wr):=LH (QK.begin HB.out.1 (by rw [zm];exact zF HW.out.2 HB.out.2.1 (fun k hk e=>by have h1:=HW.out.2.lt k hk;rcases e with e | e <;> omega)) (by rw [zGA];exact ztA HB.out.2.2 HBW.out))
       have ET:Hid (nodeS (szs a) (wordA a) last f seg at_ paid=if (kidsK (f o.seg) (if o.size=6 then o.at_ else o.at_+o.data) (paid+(1+obWords o)) nk).2.1=0 then (.mk o.kind o.size (wordsP (wordA a) o.seg o.at_ i) (bytesP (wordA a) o.seg o.at_ b) (kidsK (f o.seg) (if o.size=6 then o.at_ else o.at_+o.data) (paid+(1+obWords o)) nk).1,0,(kidsK (f o.seg) (if o.size=6 then o.at_ else o.at_+o.data) (paid+(1+obWords o)) nk).2.2) else (tr0,(kidsK (f o.seg) (if o.size=6 then o.at_ else o.at_+o.data) (paid+(1+obWords o)) nk).2.1,(kidsK (f o.seg) (if o.size=6 then o.at_ else o.at_+o.data) (paid+(1+obWords o)) nk).2.2)):=LH (by
        rw [E0.out]
        unfold nodeT
        have z1:=HSZ.out.w
        have z2:=HSZ.out.k
        have z3:=HSZ.out.b
        rw [z1,z2,Int.toNat_natCast,Int.toNat_natCast]
        have z4:(if o.size=2 then bytesP (wordA a) o.seg o.at_ o.count.toNat else [])=(bytesP (wordA a) o.seg o.at_ b):=by
         by_cases h2:o.size=2
         ·rw [if_pos h2] at z3 ⊢
          rw [z3,Int.toNat_natCast]
         ·rw [if_neg h2] at z3 ⊢
          obtain rfl:b=0:=by omega
          rw [zxB];rfl
        rw [z4])
       clear E0 HB
       go_wp2_with fail
       clear c0 c1 c2 c3 c4 cf o0 o1 o2 o3 o4 o5 o6 of n0 n1 n2 n3 n4 nf hx
       try clear hcp
       go_loopw [22,23,24] (fun v v23 v24 wr=>∃ (j:Nat) (er:Int) (A6:Option Addr) (n6 c6:Nat),j≤nk∧v=.int .i64 j∧Hid ((er=0∧n6=j∧∃ rows,QK w A a.length c (kidsK (f o.seg) (if o.size=6 then o.at_ else o.at_+o.data) (paid+(1+obWords o)) j).2.2 0 w1.heap.size w4.heap.size o (wordsP (wordA a) o.seg o.at_ i) (bytesP (wordA a) o.seg o.at_ b) (.slice A4 i c4') (.slice A5 b c5') j (.slice A6 n6 c6) rows wr∧rows.map (·.1)=(kidsK (f o.seg) (if o.size=6 then o.at_ else o.at_+o.data) (paid+(1+obWords o)) j).1∧(kidsK (f o.seg) (if o.size=6 then o.at_ else o.at_+o.data) (paid+(1+obWords o)) j).2.1=0)∨(er≠0∧(∃ pd,QD w A a.length c pd er w1.heap.size w4.heap.size o (.slice A4 i c4') (.slice A5 b c5') (.slice A6 n6 c6) wr)∧(kidsK (f o.seg) (if o.size=6 then o.at_ else o.at_+o.data) (paid+(1+obWords o)) nk).2.1=er))) (fun v _ _ _=>nk-(intOf v).toNat)
       case atStart=>exact ⟨0,0,none,0,0,by omega,rfl,LH (.inl ⟨rfl,rfl,[],HK0.out,rfl,rfl⟩)⟩
       case round =>
        clear HK0
        obtain ⟨j,er,A6,n6,c6',hj,rfl,HR⟩:=hrel
        by_cases her0:er=0
        case neg =>
         obtain ⟨⟨pd,hq⟩,hkk⟩:(∃ pd,QD w A a.length c pd er w1.heap.size w4.heap.size o (.slice A4 i c4') (.slice A5 b c5') (.slice A6 n6 c6') wr)∧(kidsK (f o.seg) (if o.size=6 then o.at_ else o.at_+o.data) (paid+(1+obWords o)) nk).2.1=er:=by
          rcases HR.out with h | h
          ·exact absurd h.1 her0
          ·exact h.2
         have HQF:=LH hq
         have heb:(er==0)=false:=by simpa using her0
         clear hq HR
         obtain ⟨c0,c1,c2,c3,c4,cf⟩:=zA HQF.out.d4
         by_cases hjt:j<nk
         ·have hl:=zSE HKV.out hjt
          clear hjt
          go_wp2
          clear c0 c1 c2 c3 c4 cf
          obtain ⟨wd,hwd⟩:∃ wd:World,wr.drew=wd:=⟨_,rfl⟩
          have hqd:=HQF.out.later (Keep.refl NoB wr).drew
          have hkd:=(Keep.refl (fun j=>j≤w4.heap.size) wr).grow (Keep.refl NoB wr).drew
          rw [hwd] at hqd hkd
          obtain ⟨c0,c1,c2,c3,c4,cf⟩:=zA hqd.d4
          obtain ⟨n0,n1,n2,n3,n4,nf⟩:=zA hqd.nd
          obtain ⟨y0,y1,y2,y3,y4,yf⟩:=zA hqd.d8
          obtain ⟨hd98,hr8,hr9,hgr,hke⟩:=hqd.fin
          obtain ⟨z0,z1,z2,z3,z4,zf⟩:=zA hd98
          have HS1:Hid (¬ (w.heap.size=w.heap.size+1)∧¬ (w4.heap.size=w.heap.size+1)):=LH ⟨by omega,by have:=HLO.out;have:=hqd.lo;omega⟩
          have HKE:=LH (hkd.trans hke (fun j hj=>.inl hj))
          have HR8:=LH hr8
          have HR9:=LH hr9
          have HGR:=LH hgr
          clear hd98 hr8 hr9 hgr hke hkd hqd
          refine ze (fun j=>j=w.heap.size+1) [0,1,2,3] [2,3] [0,1] [3] rfl (by kernel_rfl) ?_
          rw [hwd]
          clear hwd
          refine oc5 c0 c1 c2 c3 c4 ?_ (s0:=HS1.out.1) (s1:=HS1.out.1) (s2:=HS1.out.1) (s3:=HS1.out.1) (s4:=HS1.out.1)
          refine oc5 n0 n1 n2 n3 n4 ?_ (s0:=HS1.out.2) (s1:=HS1.out.2) (s2:=HS1.out.2) (s3:=HS1.out.2) (s4:=HS1.out.2)
          refine zJ rfl rfl rfl rfl ?_ ?_ ?_ ?_
          rotate_left
          ·go_simp;with_reducible rfl
          ·exact fun _=>zb _ _ _ _ _
          refine zJ rfl rfl rfl rfl ?_ ?_ (fun h=>absurd (by simp) h) ?_
          rotate_left
          ·go_simp;with_reducible rfl
          refine zD ?_
          clear c0 c1 c2 c3 c4 cf n0 n1 n2 n3 n4 nf y0 y1 y2 y3 y4 yf z0 z1 z2 z3 z4 zf
          revert HKE HR8 HR9 HGR
          generalize ((((((((((wd.setCell ⟨w.heap.size+1,0,none⟩ (.slice A a.length c)).setCell ⟨w.heap.size+1,1,none⟩ (.bool false)).setCell ⟨w.heap.size+1,2,none⟩ (.slice none 0 0)).setCell ⟨w.heap.size+1,3,none⟩ (.int .i64 pd)).setCell ⟨w.heap.size+1,4,none⟩ (.int .i64 er)).setCell ⟨w.heap.size+2,0,none⟩ (.int .i64 o.kind)).setCell ⟨w.heap.size+2,1,none⟩ (.int .i64 o.size)).setCell ⟨w.heap.size+2,2,none⟩ (.slice A4 i c4')).setCell ⟨w.heap.size+2,3,none⟩ (.slice A5 b c5')).setCell ⟨w.heap.size+2,4,none⟩ (.slice A6 n6 c6'))=w7
          intro HKE HR8 HR9 HGR
          obtain ⟨x0,x1,x2,x3,x4,xf⟩:=zA HR8.out
          obtain ⟨y0,y1,y2,y3,y4,yf⟩:=zA HR9.out
          rename_i K hK
          refine hK _ _ (wp_ret ?_)
          clear hK K
          refine bodyPost_ret (v:=.tuple #[.agg #[.slice A a.length c,qL,qI,.int .i64 pd,.int .i64 er],.agg #[o.kind,o.size,.slice A4 i c4',.slice A5 b c5',.slice A6 n6 c6']]) ?_ rfl ?_
          ·rw [zKA rfl];go_simp
          ·rw [ET.out,if_neg (by rw [hkk];exact her0)]
           exact ⟨pd,o.kind,o.size,A4,A5,A6,i,c4',b,c5',n6,c6',by rw [hkk],HGR.out,fun h=>absurd h (by rw [hkk];exact her0)⟩
         ·obtain rfl:j=nk:=by omega
          have hl:=zXD HKV.out
          clear hjt
          go_wp2
          clear c0 c1 c2 c3 c4 cf
          obtain ⟨wd,hwd⟩:∃ wd:World,wr.drew=wd:=⟨_,rfl⟩
          have hqd:=HQF.out.later (Keep.refl NoB wr).drew
          have hkd:=(Keep.refl (fun j=>j≤w4.heap.size) wr).grow (Keep.refl NoB wr).drew
          rw [hwd] at hqd hkd
          obtain ⟨c0,c1,c2,c3,c4,cf⟩:=zA hqd.d4
          obtain ⟨n0,n1,n2,n3,n4,nf⟩:=zA hqd.nd
          obtain ⟨y0,y1,y2,y3,y4,yf⟩:=zA hqd.d8
          obtain ⟨hd98,hr8,hr9,hgr,hke⟩:=hqd.fin
          obtain ⟨z0,z1,z2,z3,z4,zf⟩:=zA hd98
          have HS1:Hid (¬ (w.heap.size=w.heap.size+1)∧¬ (w4.heap.size=w.heap.size+1)):=LH ⟨by omega,by have:=HLO.out;have:=hqd.lo;omega⟩
          have HKE:=LH (hkd.trans hke (fun j hj=>.inl hj))
          have HR8:=LH hr8
          have HR9:=LH hr9
          have HGR:=LH hgr
          clear hd98 hr8 hr9 hgr hke hkd hqd
          refine ze (fun j=>j=w.heap.size+1) [0,1,2,3] [2,3] [0,1] [3] rfl (by kernel_rfl) ?_
          rw [hwd]
          clear hwd
          refine oc5 c0 c1 c2 c3 c4 ?_ (s0:=HS1.out.1) (s1:=HS1.out.1) (s2:=HS1.out.1) (s3:=HS1.out.1) (s4:=HS1.out.1)
          refine oc5 n0 n1 n2 n3 n4 ?_ (s0:=HS1.out.2) (s1:=HS1.out.2) (s2:=HS1.out.2) (s3:=HS1.out.2) (s4:=HS1.out.2)
          refine zJ rfl rfl rfl rfl ?_ ?_ ?_ ?_
          rotate_left
          ·go_simp;with_reducible rfl
          ·exact fun _=>zb _ _ _ _ _
          refine zJ rfl rfl rfl rfl ?_ ?_ (fun h=>absurd (by simp) h) ?_
          rotate_left
          ·go_simp;with_reducible rfl
          refine zD ?_
          clear c0 c1 c2 c3 c4 cf n0 n1 n2 n3 n4 nf y0 y1 y2 y3 y4 yf z0 z1 z2 z3 z4 zf
          revert HKE HR8 HR9 HGR
          generalize ((((((((((wd.setCell ⟨w.heap.size+1,0,none⟩ (.slice A a.length c)).setCell ⟨w.heap.size+1,1,none⟩ (.bool false)).setCell ⟨w.heap.size+1,2,none⟩ (.slice none 0 0)).setCell ⟨w.heap.size+1,3,none⟩ (.int .i64 pd)).setCell ⟨w.heap.size+1,4,none⟩ (.int .i64 er)).setCell ⟨w.heap.size+2,0,none⟩ (.int .i64 o.kind)).setCell ⟨w.heap.size+2,1,none⟩ (.int .i64 o.size)).setCell ⟨w.heap.size+2,2,none⟩ (.slice A4 i c4')).setCell ⟨w.heap.size+2,3,none⟩ (.slice A5 b c5')).setCell ⟨w.heap.size+2,4,none⟩ (.slice A6 n6 c6'))=w7
          intro HKE HR8 HR9 HGR
          obtain ⟨x0,x1,x2,x3,x4,xf⟩:=zA HR8.out
          obtain ⟨y0,y1,y2,y3,y4,yf⟩:=zA HR9.out
          rename_i K hK
          refine hK _ _ (wp_ret ?_)
          clear hK K
          refine bodyPost_ret (v:=.tuple #[.agg #[.slice A a.length c,qL,qI,.int .i64 pd,.int .i64 er],.agg #[o.kind,o.size,.slice A4 i c4',.slice A5 b c5',.slice A6 n6 c6']]) ?_ rfl ?_
          ·rw [zKA rfl];go_simp
          ·rw [ET.out,if_neg (by rw [hkk];exact her0)]
           exact ⟨pd,o.kind,o.size,A4,A5,A6,i,c4',b,c5',n6,c6',by rw [hkk],HGR.out,fun h=>absurd h (by rw [hkk];exact her0)⟩
        ·subst her0
         obtain ⟨rfl,rows,hqk,hmap,hok0⟩:n6=j∧∃ rows,QK w A a.length c ((kidsK (f o.seg) (if o.size=6 then o.at_ else o.at_+o.data) (paid+(1+obWords o)) j)).2.2 0 w1.heap.size w4.heap.size o (wordsP (wordA a) o.seg o.at_ i) (bytesP (wordA a) o.seg o.at_ b) (.slice A4 i c4') (.slice A5 b c5') j (.slice A6 n6 c6') rows wr∧rows.map (·.1)=(kidsK (f o.seg) (if o.size=6 then o.at_ else o.at_+o.data) (paid+(1+obWords o)) j).1∧(kidsK (f o.seg) (if o.size=6 then o.at_ else o.at_+o.data) (paid+(1+obWords o)) j).2.1=0:=by
          rcases HR.out with h | h
          ·exact h.2
          ·exact absurd rfl h.1
         clear HR
         have HK:=LH hqk
         have HQF:=LH hqk.q
         clear hqk
         obtain ⟨c0,c1,c2,c3,c4,cf⟩:=zA HQF.out.d4
         by_cases hjt:n6<nk
         ·first
          | exact absurd hjt (by have:=HKZ.out;omega)
          | skip
          all_goals
           have hl:=zSE HKV.out hjt
           clear c0 c1 c2 c3 c4 cf
           have hwk:IntKind.i64.wrap ((n6:Int)+1)=(n6:Int)+1:=IntWalk.i64_in _ (by omega)
           have hwdp:IntKind.i64.wrap (deep+1)=deep+1:=IntWalk.i64_in _ (by omega)
           have hpb:=zPB (f:=f o.seg) (at0:=(if o.size=6 then o.at_ else o.at_+o.data)) (HFP.out o.seg) HP01.out.1 HP01.out.2 n6 hok0
           obtain ⟨r,hr⟩:∃ r,f o.seg ((if o.size=6 then o.at_ else o.at_+o.data)+(n6:Int)) (kidsK (f o.seg) (if o.size=6 then o.at_ else o.at_+o.data) (paid+(1+obWords o)) n6).2.2=r:=⟨_,rfl⟩
           have E1:Hid (kidsK (f o.seg) (if o.size=6 then o.at_ else o.at_+o.data) (paid+(1+obWords o)) (n6+1)=if r.2.1=0 then ((kidsK (f o.seg) (if o.size=6 then o.at_ else o.at_+o.data) (paid+(1+obWords o)) n6).1++[r.1],0,r.2.2) else ([],r.2.1,r.2.2)):=LH (by
            rw [← hr]
            exact if_pos hok0)
           have hcall:=IH.out (HLS.out HVV.out.2.2.1) o.seg ((if o.size=6 then o.at_ else o.at_+o.data)+(n6:Int)) (kidsK (f o.seg) (if o.size=6 then o.at_ else o.at_+o.data) (paid+(1+obWords o)) n6).2.2 wr (HR0.out.grow HQF.out.grow) hpb.1 hpb.2
           rw [hr] at hcall
           have HMP:=LH hmap
           have HJT:Hid (n6+1≤nk):=LH hjt
           clear hr hpb hok0 hmap hjt hj
           revert hcall HK HQF
           generalize (kidsK (f o.seg) (if o.size=6 then o.at_ else o.at_+o.data) (paid+(1+obWords o)) n6).2.2=pd
           intro HK HQF hcall
           rw [HVV.out.2.1] at hcall
           first
           | (have hv2:IntKind.i64.wrap (o.data*(2-o.kind))=o.data:=HVV.out.1;have hv3:IntKind.i64.wrap (o.at_+o.data)=o.at_+o.data:=IntWalk.i64_in _ (by have:=HOI.out.ok.d;omega);have hv4:IntKind.i64.wrap (o.at_+o.data+(n6:Int))=o.at_+o.data+(n6:Int):=IntWalk.i64_in _ (by have:=HOI.out.ok.d;have:=HJT.out;omega))
           | (have hv2:IntKind.i64.wrap (o.data*(2-o.kind))=0:=HVV.out.1;have hv3:IntKind.i64.wrap o.at_=o.at_:=IntWalk.i64_in _ (by omega);have hv4:IntKind.i64.wrap (o.at_+(n6:Int))=o.at_+(n6:Int):=IntWalk.i64_in _ (by have:=HJT.out;omega);rw [Int.add_zero] at hcall)
           have hv1:=HVV.out.2.2.2
           have HC:=LH hcall
           clear hcall
           obtain ⟨c0,c1,c2,c3,c4,cf⟩:=zA HQF.out.d4
           obtain ⟨o0,o1,o2,o3,o4,o5,o6,of⟩:=zC HQF.out.ob
           go_wp2_with fail
           refine HC.out.mono ?_
           rintro e w5 ⟨p5,k5,s5,B1,B2,B3,m1,d1,m2,d2,m3,d3,rfl,hg5,hres⟩
           clear c0 c1 c2 c3 c4 cf o0 o1 o2 o3 o4 o5 o6 of hv1 hv2 hv3 hv4 hwdp hl HC
           obtain ⟨e5,he5⟩:∃ e5,r.2.1=e5:=⟨_,rfl⟩
           rw [he5]
           obtain ⟨kC,kD,kE,kq,kk,ksz⟩:=(HQF.out.later hg5).kid p5 e5 k5 s5 (.slice B1 m1 d1) (.slice B2 m2 d2) (.slice B3 m3 d3)
           have KQ:=LH kq
           have KE:=LH kE
           have KK:=LH kk
           have KS:=LH ksz
           obtain ⟨c0,c1,c2,c3,c4,cf⟩:=zA kC
           obtain ⟨g0,g1,g2,g3,g4,gf⟩:=zA kD
           obtain ⟨h0,h1,h2,h3,h4,hf⟩:=zA kE
           obtain ⟨n0,n1,n2,n3,n4,nf⟩:=zA kq.nd
           have HG5:=LH hg5
           have HRS:=LH hres
           have HE5:=LH he5
           have HBG:Hid (w4.heap.size+1≤w5.heap.size):=LH (HQF.out.later hg5).big
           have HOW:=LH (zF (zF HK.out.own hg5 (fun _ _ h=>h)) kk (fun j hj e=>by have:=(HK.out.own.lt j hj).1;have:=HQF.out.lo;omega))
           clear kC kD kE kq kk ksz hg5 hres he5
           go_wp2_with (at_builtin;refine zL _ rfl _ _ 112 112 rfl (w4.heap.size+1) 114 (.agg qA) 5 88 zv zZA rfl (.slice A6 n6 c6') n6 (kcs rows) rfl (.slice (some ⟨w5.heap.size+2,0,none⟩) 1 1) 1 [.int .i64 k5,.int .i64 s5,.slice B1 m1 d1,.slice B2 m2 d2,.slice B3 m3 d3] rfl ?_ (by exact zF HOW.out ((Keep.refl NoB _).alloc _) (fun _ _ h=>h)) (by exact Src.ofSlice _ zv ⟨w5.heap.size+2,0,none⟩ 1 1 _ rfl (World.news_of_block (cs:=#[.int .i64 k5,.int .i64 s5,.slice B1 m1 d1,.slice B2 m2 d2,.slice B3 m3 d3]) (t:=114) (fr:=(0,0)) (by have hnew:=heap_alloc_new (((((((w5.alloc (.cells #[.slice A a.length c,qL,qI,.int .i64 p5,.int .i64 e5] 216)).alloc (.cells #[.int .i64 k5,.int .i64 s5,.slice B1 m1 d1,.slice B2 m2 d2,.slice B3 m3 d3] 114)).setCell ⟨w.heap.size,0,none⟩ (.slice A a.length c)).setCell ⟨w.heap.size,1,none⟩ (.bool false)).setCell ⟨w.heap.size,2,none⟩ (.slice none 0 0)).setCell ⟨w.heap.size,3,none⟩ (.int .i64 p5)).setCell ⟨w.heap.size,4,none⟩ (.int .i64 e5)) (.cells #[.int .i64 k5,.int .i64 s5,.slice B1 m1 d1,.slice B2 m2 d2,.slice B3 m3 d3] 114);rw [KS.out] at hnew;exact hnew)) (by simp [Value.oneCell'])) (by have:=HJT.out;simp only [maxLen];omega) (by have:=HJT.out;omega) (by have:=HBG.out;have:=KS.out;simp;omega);intro v7 w7 hap;refine Hid.out ?_)
           refine LH ?_
           revert KQ KE KK KS HOW hap
           generalize (((((((w5.alloc (.cells #[.slice A a.length c,qL,qI,.int .i64 p5,.int .i64 e5] 216)).alloc (.cells #[.int .i64 k5,.int .i64 s5,.slice B1 m1 d1,.slice B2 m2 d2,.slice B3 m3 d3] 114)).setCell ⟨w.heap.size,0,none⟩ (.slice A a.length c)).setCell ⟨w.heap.size,1,none⟩ (.bool false)).setCell ⟨w.heap.size,2,none⟩ (.slice none 0 0)).setCell ⟨w.heap.size,3,none⟩ (.int .i64 p5)).setCell ⟨w.heap.size,4,none⟩ (.int .i64 e5))=w6
           intro KQ KE KK KS HOW hap
           clear c0 c1 c2 c3 c4 cf g0 g1 g2 g3 g4 gf h0 h1 h2 h3 h4 hf n0 n1 n2 n3 n4 nf
           obtain ⟨A7,c7,rfl,_⟩:=zK hap.own
           have hnx:=HK.out.next HG5.out KQ.out KK.out HE5.out E1.out HMP.out HJT.out (fun h=>by
            obtain ⟨q1,q2,q3,_,_,_,q7,q8⟩:=HRS.out (HE5.out.trans h)
            exact ⟨q1,q2,q3,q7,q8⟩) hap
           have HF:=LH hnx.2
           obtain ⟨n0,n1,n2,n3,n4,nf⟩:=zA hnx.1.nd
           clear hap hnx
           go_wp2
           go_roundw
           case rel=>exact ⟨n6+1,e5,A7,n6+1,c7,HJT.out,by go_num,HF⟩
           case measure=>have:=HJT.out;simp [intOf];omega
         ·obtain rfl:n6=nk:=by omega
          have hl:=zXD HKV.out
          clear hjt
          go_wp2
          clear c0 c1 c2 c3 c4 cf
          obtain ⟨wd,hwd⟩:∃ wd:World,wr.drew=wd:=⟨_,rfl⟩
          have hqd:=HQF.out.later (Keep.refl NoB wr).drew
          have hkd:=(Keep.refl (fun j=>j≤w4.heap.size) wr).grow (Keep.refl NoB wr).drew
          rw [hwd] at hqd hkd
          obtain ⟨c0,c1,c2,c3,c4,cf⟩:=zA hqd.d4
          obtain ⟨n0,n1,n2,n3,n4,nf⟩:=zA hqd.nd
          obtain ⟨y0,y1,y2,y3,y4,yf⟩:=zA hqd.d8
          obtain ⟨hd98,hr8,hr9,hgr,hke⟩:=hqd.fin
          obtain ⟨z0,z1,z2,z3,z4,zf⟩:=zA hd98
          have HS1:Hid (¬ (w.heap.size=w.heap.size+1)∧¬ (w4.heap.size=w.heap.size+1)):=LH ⟨by omega,by have:=HLO.out;have:=hqd.lo;omega⟩
          have HKE:=LH (hkd.trans hke (fun j hj=>.inl hj))
          have HR8:=LH hr8
          have HR9:=LH hr9
          have HGR:=LH hgr
          clear hd98 hr8 hr9 hgr hke hkd hqd
          refine ze (fun j=>j=w.heap.size+1) [0,1,2,3] [2,3] [0,1] [3] rfl (by kernel_rfl) ?_
          rw [hwd]
          clear hwd
          refine oc5 c0 c1 c2 c3 c4 ?_ (s0:=HS1.out.1) (s1:=HS1.out.1) (s2:=HS1.out.1) (s3:=HS1.out.1) (s4:=HS1.out.1)
          refine oc5 n0 n1 n2 n3 n4 ?_ (s0:=HS1.out.2) (s1:=HS1.out.2) (s2:=HS1.out.2) (s3:=HS1.out.2) (s4:=HS1.out.2)
          refine zJ rfl rfl rfl rfl ?_ ?_ ?_ ?_
          rotate_left
          ·go_simp;with_reducible rfl
          ·exact fun _=>zb _ _ _ _ _
          refine zJ rfl rfl rfl rfl ?_ ?_ (fun h=>absurd (by simp) h) ?_
          rotate_left
          ·go_simp;with_reducible rfl
          refine zD ?_
          clear c0 c1 c2 c3 c4 cf n0 n1 n2 n3 n4 nf y0 y1 y2 y3 y4 yf z0 z1 z2 z3 z4 zf
          revert HKE HR8 HR9 HGR
          generalize ((((((((((wd.setCell ⟨w.heap.size+1,0,none⟩ (.slice A a.length c)).setCell ⟨w.heap.size+1,1,none⟩ (.bool false)).setCell ⟨w.heap.size+1,2,none⟩ (.slice none 0 0)).setCell ⟨w.heap.size+1,3,none⟩ (.int .i64 (kidsK (f o.seg) (if o.size=6 then o.at_ else o.at_+o.data) (paid+(1+obWords o)) n6).2.2)).setCell ⟨w.heap.size+1,4,none⟩ (.int .i64 0)).setCell ⟨w.heap.size+2,0,none⟩ (.int .i64 o.kind)).setCell ⟨w.heap.size+2,1,none⟩ (.int .i64 o.size)).setCell ⟨w.heap.size+2,2,none⟩ (.slice A4 i c4')).setCell ⟨w.heap.size+2,3,none⟩ (.slice A5 b c5')).setCell ⟨w.heap.size+2,4,none⟩ (.slice A6 n6 c6'))=w7
          intro HKE HR8 HR9 HGR
          obtain ⟨x0,x1,x2,x3,x4,xf⟩:=zA HR8.out
          obtain ⟨y0,y1,y2,y3,y4,yf⟩:=zA HR9.out
          rename_i K hK
          refine hK _ _ (wp_ret ?_)
          clear hK K
          refine bodyPost_ret (v:=.tuple #[.agg #[.slice A a.length c,qL,qI,.int .i64 (kidsK (f o.seg) (if o.size=6 then o.at_ else o.at_+o.data) (paid+(1+obWords o)) n6).2.2,qJ],.agg #[o.kind,o.size,.slice A4 i c4',.slice A5 b c5',.slice A6 n6 c6']]) ?_ rfl ?_
          ·rw [zKA rfl];go_simp
          ·rw [ET.out,if_pos hok0]
           have hp:=HK.out.post (zm _ _ _ _) (zGA _ _ _ _) HKE.out (fun j hj=>hj) HLM.out.1 HLM.out.2.1 HLM.out.2.2
           rw [hmap] at hp
           exact ⟨_,o.kind,o.size,A4,A5,A6,i,c4',b,c5',n6,c6',rfl,HGR.out,fun _=>⟨rfl,rfl,rfl,(zm _ _ _ _).symm,(zGA _ _ _ _).symm,by rw [← hmap];simp [Tr.kids,HK.out.len],hp.1,hp.2⟩⟩
end Go.Proofs.YtfkcpaahdlkcdaaGreat

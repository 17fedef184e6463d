import Derived.Test.YtfkcpaahdlkcdaaGreatRRecvReads08
import Derived.Test.YtfkcpaahdlkcdaaGreatRRecvReads09
import Derived.Test.YtfkcpaahdlkcdaaGreatRRecvReads10
import Derived.Test.YtfkcpaahdlkcdaaGreatRRecvReads11
set_option linter.unusedSimpArgs false
set_option linter.unusedVariables false
set_option maxRecDepth 100000
set_option maxHeartbeats 16000000
namespace Go.Proofs.YtfkcpaahdlkcdaaGreat
open Go.RowKit
theorem zgH {sz:List Int} {wd:Int→Int→Int×Int} (ho:SouOk sz wd):∀ l:Nat,l≤1000→NodeAt sz wd l
 | 0,_=>fun sv W0 D paid seg at_ w hS hD hD0 hg p0 p1=>zDJ ho sv W0 D paid seg at_ w hS hD hD0 hg p0 p1
 | l + 1, h => fun sv W0 D paid seg at_ w hS hD hD0 hg p0 p1 => by
  have ih:=LH (zgH ho l (by omega))
  rcases (zd ho seg at_).cases with e | ⟨hk,hs,_⟩ | ⟨hk,_,_,hs⟩
  ·exact zEJ ho sv W0 D paid seg at_ w hS hD hD0 hg p0 p1 (by rw [e];rfl)
  ·exact zbL ho ih (by omega) sv W0 D paid seg at_ w hS hD hD0 hg p0 p1 hs (by omega)
  ·rcases hs with ⟨hs,_⟩ | ⟨hs,_⟩ | ⟨hs,_⟩
   ·exact zcL ho ih (by omega) sv W0 D paid seg at_ w hS hD hD0 hg p0 p1 hs (by omega)
   ·exact zdL ho ih (by omega) sv W0 D paid seg at_ w hS hD hD0 hg p0 p1 hs (by omega)
   ·exact zeL ho ih (by omega) sv W0 D paid seg at_ w hS hD hD0 hg p0 p1 hs (by omega)
def decP (a:List (List Int)):Tr×Int:=if fitsB (szs a)=true then ((nodeP (szs a) (wordA a) 32 0 0 0).1,(nodeP (szs a) (wordA a) 32 0 0 0).2.1) else (tr0,1)
def DPost (r:Tr×Int) (w:World) (e:Ending) (w':World):Prop :=
 ∃ A1 c1 A2 c2 A3 c3,e=.returned (.tuple #[.agg #[r.1.kind,r.1.size,.slice A1 r.1.ws.length c1,.slice A2 r.1.bs.length c2,.slice A3 r.1.kids.length c3],.int .u16 r.2])∧Grow w w' ∧
  TrR w' r.1 (.slice A1 r.1.ws.length c1) (.slice A2 r.1.bs.length c2) (.slice A3 r.1.kids.length c3)∧TrB r.1
theorem zmF (a:List (List Int)) (v:Value) (w:World) (h:RowsR .u64 a v w) (ha:OkA a):Calls Tryz.prog 201 #[v] w (DPost (decP a) w):=by
 obtain ⟨A,n,rfl⟩:=h.slice
 have hg0:=(Keep.refl NoB w).alloc (.cells qA 114)
 have HN:=LH (heap_alloc_new w (.cells qA 114))
 have HG:=LH hg0
 have H:=LH (h.grow hg0)
 have HA:=LH ha
 clear h ha hg0
 go_enter Tryz.func201,Tryz.ntmps201
 go_wp2_with fail
 refine (zbD a _ _ H.out HA.out).mono ?_
 rintro e w1 ⟨rfl,hg⟩
 replace HN:=LH (hg.heap HN.out)
 replace HG:=LH (HG.out.grow hg)
 replace H:=LH (H.out.grow hg)
 clear hg
 cases hf:fitsB (szs a) with
 | false =>
  have E:Hid (decP a=(tr0,1)):=LH (by unfold decP;rw [if_neg (by simp [hf])])
  clear hf
  obtain ⟨n0,n1,n2,n3,n4,nf⟩:=zA HN.out
  have hst:=LH (zY (.int .i64 0) (.int .i64 0) (.slice none 0 0) (.slice none 0 0) (.slice none 0 0) HG.out (Nat.le_refl _) HN.out)
  go_wp2
  (try simp only [Exit.inBlock,Exit.then])
  obtain ⟨r0,r1,r2,r3,r4,rf⟩:=zA hst.out.1
  refine bodyPost_ret (v:=.tuple #[.agg qA,.int .u16 1]) ?_ rfl ?_
  ·rw [results_cell_tmp rfl];go_simp
  ·rw [E.out]
   exact ⟨none,0,none,0,none,0,rfl,hst.out.2,TrR.nil _ 0 0,tr0_b⟩
 | true =>
  have E:Hid (decP a=((nodeP (szs a) (wordA a) 32 0 0 0).1,(nodeP (szs a) (wordA a) 32 0 0 0).2.1)):=LH (by unfold decP;rw [if_pos hf])
  clear hf
  go_wp2_with fail
  refine (zlG A _ n w1).mono ?_
  rintro e w' ⟨rfl,rfl⟩
  have hS:=LH (zwI H.out HA.out)
  have hg2:=(Keep.refl NoB w1).alloc (.cells #[.iface 363 (.agg #[.slice A a.length n]),.int .i64 0] 342)
  have HD:Hid (Dec w1.heap.size (.iface 363 (.agg #[.slice A a.length n])) 0 _):=LH (heap_alloc_new w1 (.cells #[.iface 363 (.agg #[.slice A a.length n]),.int .i64 0] 342))
  have Hlt:=LH (gE HN.out).1
  replace HN:=LH (Grow.heap hg2 HN.out)
  have HG2:=LH hg2
  clear hg2
  go_wp2_with fail
  refine (zgH (zi HA.out) 32 (by omega) _ w1 w1.heap.size 0 0 0 _ hS.out HD.out (Nat.le_refl _) HG2.out (by omega) (by omega)).mono ?_
  rintro e w3 ⟨vw,vb,vk,rfl,hdec,hkeep,hfoot,htrb⟩
  obtain ⟨A1,c1,A2,c2,A3,c3,rfl,rfl,rfl⟩:=hfoot.now.parts
  generalize nodeP (szs a) (wordA a) 32 0 0 0=r at *
  have hlt:=Hlt.out
  have hNo:w.heap.size≠w1.heap.size:=by omega
  have HN3:=LH ((hkeep.block _ (gE HN.out).1 (fun e=>hNo e)).trans HN.out)
  have HG3:Hid (Grow w w3):=LH ((((HG.out.grow HG2.out).mono (fun _ h=>h.elim)).trans hkeep (fun i hi=>.inl hi):Keep (fun k=>k=w1.heap.size) w w3).new (fun i hi=>by omega))
  obtain ⟨n0,n1,n2,n3,n4,nf⟩:=zA HN3.out
  have hst:=LH (zY (.int .i64 r.1.kind) (.int .i64 r.1.size) (.slice A1 r.1.ws.length c1) (.slice A2 r.1.bs.length c2) (.slice A3 r.1.kids.length c3) HG3.out (Nat.le_refl _) HN3.out)
  have HF:=LH (hfoot.keep (zb (N:=w.heap.size) (.int .i64 r.1.kind) (.int .i64 r.1.size) (.slice A1 r.1.ws.length c1) (.slice A2 r.1.bs.length c2) (.slice A3 r.1.kids.length c3)) (fun j hj e=>by have:=hj.1;simp at this;omega))
  have Htb:=LH htrb
  clear hdec hkeep hfoot htrb hlt hNo
  go_wp2
  (try simp only [Exit.inBlock,Exit.then])
  obtain ⟨r0,r1,r2,r3,r4,rf⟩:=zA hst.out.1
  refine bodyPost_ret (v:=.tuple #[.agg #[r.1.kind,r.1.size,.slice A1 r.1.ws.length c1,.slice A2 r.1.bs.length c2,.slice A3 r.1.kids.length c3],.int .u16 r.2.1]) ?_ rfl ?_
  ·rw [results_cell_tmp rfl];go_simp
  ·rw [E.out]
   exact ⟨A1,c1,A2,c2,A3,c3,rfl,hst.out.2,HF.out.now,Htb.out⟩
def checkP (a:List (List Int)):Int:=if (decP a).2=0 then (if rightB 32 (decP a).1=true then 0 else 23) else (decP a).2
def CPost (a:List (List Int)) (w:World) (e:Ending) (w':World):Prop :=
 ∃ (k s:Int) (A1 A2 A3:Option Addr) (n1 n2 n3 c1 c2 c3:Nat),e=.returned (.tuple #[.agg #[.int .i64 k,.int .i64 s,.slice A1 n1 c1,.slice A2 n2 c2,.slice A3 n3 c3],.int .u16 (checkP a)])∧Grow w w'
theorem zIF (a:List (List Int)) (v:Value) (w:World) (h:RowsR .u64 a v w) (ha:OkA a):Calls Tryz.prog 131 #[v] w (CPost a w):=by
 have hg0:=(Keep.refl NoB w).alloc (.cells qA 114)
 have HN:=LH (heap_alloc_new w (.cells qA 114))
 have HG:=LH hg0
 have H:=LH (zmF a v _ (h.grow hg0) ha)
 obtain ⟨A,n,rfl⟩:=h.slice
 clear h ha hg0
 have E0:Hid (checkP a=if (decP a).2=0 then (if rightB 32 (decP a).1=true then 0 else 23) else (decP a).2):=LH rfl
 go_enter Tryz.func131,Tryz.ntmps131
 go_wp2_with fail
 refine H.out.mono ?_
 rintro e w1 ⟨A1,c1,A2,c2,A3,c3,rfl,hg,htr,htb⟩
 generalize decP a=r at *
 obtain ⟨t,er⟩:=r
 have hg2:=(Keep.refl NoB w1).alloc (.cells #[t.kind,t.size,.slice A1 t.ws.length c1,.slice A2 t.bs.length c2,.slice A3 t.kids.length c3] 114)
 have HT:=LH (heap_alloc_new w1 (.cells #[t.kind,t.size,.slice A1 t.ws.length c1,.slice A2 t.bs.length c2,.slice A3 t.kids.length c3] 114))
 replace HN:=LH (Grow.heap hg2 (hg.heap HN.out))
 replace HG:=LH ((HG.out.grow hg).grow hg2)
 have HTR:=LH (And.intro (htr.grow hg2) htb)
 clear hg htr htb hg2 H
 obtain ⟨t0,t1,t2,t3,t4,tf⟩:=zA HT.out
 obtain ⟨n0,n1,n2,n3,n4,nf⟩:=zA HN.out
 by_cases he:er=0
 case neg =>
  have eb:(er != 0)=true:=by simp [he]
  have E:Hid (checkP a=er):=LH (E0.out.trans (if_neg he))
  have hst:=LH (zY (.int .i64 0) (.int .i64 0) (.slice none 0 0) (.slice none 0 0) (.slice none 0 0) HG.out (Nat.le_refl _) HN.out)
  clear he
  go_wp2
  (try simp only [Exit.inBlock,Exit.then])
  obtain ⟨r0,r1,r2,r3,r4,rf⟩:=zA hst.out.1
  refine bodyPost_ret (v:=.tuple #[.agg qA,.int .u16 er]) ?_ rfl ?_
  ·rw [results_cell_tmp rfl];go_simp
  ·exact ⟨0,0,none,none,none,0,0,0,0,0,0,by rw [E.out],hst.out.2⟩
 subst he
 replace E0:=LH (E0.out.trans (if_pos (by simp)))
 go_wp2_with fail
 refine (ztG t _ _ _ _ HTR.out.1 HTR.out.2).mono ?_
 rintro e w3 ⟨rfl,hg⟩
 replace HN:=LH (hg.heap HN.out)
 replace HT:=LH (hg.heap HT.out)
 replace HG:=LH (HG.out.grow hg)
 clear hg t0 t1 t2 t3 t4 tf n0 n1 n2 n3 n4 nf
 obtain ⟨t0,t1,t2,t3,t4,tf⟩:=zA HT.out
 obtain ⟨n0,n1,n2,n3,n4,nf⟩:=zA HN.out
 cases hr:rightB 32 t with
 | false =>
  have E:Hid (checkP a=23):=LH (E0.out.trans (if_neg (by simp [hr])))
  have hst:=LH (zY (.int .i64 0) (.int .i64 0) (.slice none 0 0) (.slice none 0 0) (.slice none 0 0) HG.out (Nat.le_refl _) HN.out)
  clear hr
  go_wp2
  (try simp only [Exit.inBlock,Exit.then])
  obtain ⟨r0,r1,r2,r3,r4,rf⟩:=zA hst.out.1
  refine bodyPost_ret (v:=.tuple #[.agg qA,.int .u16 23]) ?_ rfl ?_
  ·rw [results_cell_tmp rfl];go_simp
  ·exact ⟨0,0,none,none,none,0,0,0,0,0,0,by rw [E.out],hst.out.2⟩
 | true =>
  have E:Hid (checkP a=0):=LH (E0.out.trans (if_pos hr))
  have hst:=LH (zY (.int .i64 t.kind) (.int .i64 t.size) (.slice A1 t.ws.length c1) (.slice A2 t.bs.length c2) (.slice A3 t.kids.length c3) HG.out (Nat.le_refl _) HN.out)
  clear hr
  go_wp2
  (try simp only [Exit.inBlock,Exit.then])
  obtain ⟨r0,r1,r2,r3,r4,rf⟩:=zA hst.out.1
  refine bodyPost_ret (v:=.tuple #[.agg #[t.kind,t.size,.slice A1 t.ws.length c1,.slice A2 t.bs.length c2,.slice A3 t.kids.length c3],.int .u16 0]) ?_ rfl ?_
  ·rw [results_cell_tmp rfl];go_simp
  ·exact ⟨_,_,A1,A2,A3,_,_,_,c1,c2,c3,by rw [E.out],hst.out.2⟩
theorem zuG (a:List (List Int)) (v:Value) (w:World) (h:RowsR .u64 a v w) (ha:OkA a):Calls Tryz.prog 60 #[v] w fun e w'=>e=.returned (.int .u16 (checkP a))∧Grow w w':=by
 have H:=LH (zIF a v w h ha)
 obtain ⟨A,n,rfl⟩:=h.slice
 clear h ha
 go_enter Tryz.func60,Tryz.ntmps60
 go_wp2_with fail
 refine H.out.mono ?_
 rintro e w1 ⟨k,s,A1,A2,A3,n1,n2,n3,c1,c2,c3,rfl,hg⟩
 have Hg:=LH (hg.alloc (.cells #[.int .i64 k,.int .i64 s,.slice A1 n1 c1,.slice A2 n2 c2,.slice A3 n3 c3] 114))
 clear hg H
 go_wp2
 go_ret
 exact ⟨rfl,Hg.out⟩
theorem zJF (a b:Nat):a ^^^ (a ^^^ b)=b:=by rw [← Nat.xor_assoc,Nat.xor_self,Nat.zero_xor]
theorem zsC (n:Nat) (xs ys:List Int):moreN (moreN n xs) ys=moreN n (xs++ys):=by
 unfold moreN
 rw [zJF]
 simp [crcN]
theorem zrF {n:Nat} (h:n<4294967296) {bs:List Int} (hb:∀ c∈bs,0≤c∧c≤255):moreN n bs<4294967296:=zTD (zXE hb (zTD h))
theorem zLJ (pre:List (Nat×U64)):∀ c∈bytesW pre,0≤c∧c≤255:=by
 intro c hc
 obtain ⟨x,_,hx⟩:=List.mem_flatMap.1 hc
 obtain ⟨k,_,rfl⟩:=List.mem_map.1 hx
 omega
theorem zAB (x:Int) (s:Nat):∀ c∈putB x s,0≤c∧c≤255:=by
 intro c hc
 obtain ⟨k,_,rfl⟩:=List.mem_map.1 hc
 omega
structure OfS (w:World) (P T6 S7:Nat) (n:Nat) (c:World):Prop where
 res:c.heap[w.heap.size]? = some (.cells #[qN,qI,qO] 40 (0,0))
 tab:Tab P c
 t6:c.heap[T6]? = some (.cells #[.pointer (some ⟨P,0,none⟩)] 204 (0,0))
 s7:c.heap[S7]? = some (.cells #[.int .u32 (n:Nat)] 38 (0,0))
 grow:Grow w c
 lo:w.heap.size<P∧P<T6∧T6<S7
theorem OfS.later {w:World} {P T6 S7 n:Nat} {c c':World} (h:OfS w P T6 S7 n c) (hg:Grow c c'):OfS w P T6 S7 n c' :=
 ⟨hg.heap h.res,h.tab.grow hg,hg.heap h.t6,hg.heap h.s7,h.grow.grow hg,h.lo⟩
theorem OfS.set {w:World} {P T6 S7 n:Nat} {c:World} (h:OfS w P T6 S7 n c) (m:Nat):OfS w P T6 S7 m (c.setCell ⟨S7,0,none⟩ (.int .u32 (m:Nat))):=by
 obtain ⟨l1,l2,l3⟩:=h.lo
 exact ⟨(zt (p:=⟨S7,0,none⟩) _ (by simp;omega)).trans h.res,(zt (p:=⟨S7,0,none⟩) _ (by simp;omega)).trans h.tab,(zt (p:=⟨S7,0,none⟩) _ (by simp;omega)).trans h.t6,zZD _ h.s7,h.grow.setCell (p:=⟨S7,0,none⟩) (.inr (by simp;omega)) _,h.lo⟩
theorem znB {w:World} {P T6 S7 n:Nat} {c:World} (h:OfS w P T6 S7 n c) (hn:n<4294967296) (bs:List Int) (hbig:bs.length≤1000000000) (hb:∀ x∈bs,0≤x∧x≤255) (A:Option Addr) (k:Nat) (hs:SliceR 1 (.slice A bs.length k) bs.length (u8s bs) c) :
    Calls Tryz.prog 134 #[.slice A bs.length k,.pointer (some ⟨T6,0,none⟩),.pointer (some ⟨S7,0,none⟩)] c fun e w'=>(∃ v,e=.returned v)∧w'=c.setCell ⟨S7,0,none⟩ (.int .u32 (moreN n bs:Nat)):=by
 have q6:=cell0 h.t6
 have q7:=cell0 h.s7
 have f7:=zN 0 h.s7
 have H:=LH h
 have Hs:=LH hs
 have HB:=LH hb
 clear h hs hb
 go_enter Tryz.func134,Tryz.ntmps134
 go_wp2_with fail
 refine (zGI P n hn bs hbig HB.out A k c H.out.tab Hs.out).mono ?_
 rintro e w' ⟨rfl,rfl⟩
 go_wp2
 go_end0
 exact ⟨⟨_,rfl⟩,rfl⟩
structure OfT (w:World) (P T6 S7 M9:Nat) (n:Nat) (session:Int) (zs:List Int) (A3:Option Addr) (c3:Nat) (F:Nat→Prop) (c:World):Prop where
 st:OfS w P T6 S7 n c
 man:c.heap[M9]? = some (.cells #[.int .u64 session,.slice A3 zs.length c3,qO] 40 (0,0))
 zr:Foot (SliceR 1 (.slice A3 zs.length c3) zs.length (ints zs)) c F
 hF:∀ k,F k→S7<k∧k<M9
 lo:S7<M9
theorem OfT.later {w:World} {P T6 S7 M9 n:Nat} {session:Int} {zs:List Int} {A3:Option Addr} {c3:Nat} {F:Nat→Prop} {c c':World} (h:OfT w P T6 S7 M9 n session zs A3 c3 F c) (hg:Grow c c'):OfT w P T6 S7 M9 n session zs A3 c3 F c' :=
 ⟨h.st.later hg,hg.heap h.man,h.zr.grow hg,h.hF,h.lo⟩
theorem OfT.set {w:World} {P T6 S7 M9 n:Nat} {session:Int} {zs:List Int} {A3:Option Addr} {c3:Nat} {F:Nat→Prop} {c:World} (h:OfT w P T6 S7 M9 n session zs A3 c3 F c) (m:Nat):OfT w P T6 S7 M9 m session zs A3 c3 F (c.setCell ⟨S7,0,none⟩ (.int .u32 (m:Nat))) :=
 ⟨h.st.set m,(zt (p:=⟨S7,0,none⟩) _ (by have:=h.lo;simp;omega)).trans h.man,h.zr.keep ((Keep.refl (fun j=>j=S7) c).setCell (p:=⟨S7,0,none⟩) (.inl rfl) _) (fun k hk e=>by have:=(h.hF k hk).1;omega),h.hF,h.lo⟩
theorem zI {w:World} {g T:Nat} {a0 a1 a2:Value} (h:w.heap[g]? = some (.cells #[a0,a1,a2] T (0,0))):w.cell? ⟨g,0,none⟩=some a0∧w.cell? ⟨g,1,none⟩=some a1∧w.cell? ⟨g,2,none⟩=some a2∧∀ o,w.frozen? ⟨g,o,none⟩=false :=
 ⟨World.news_of_block h 0 _ rfl,World.news_of_block h 1 _ rfl,World.news_of_block h 2 _ rfl,fun o=>zN o h⟩
theorem zYE {w0 w:World} {g T:Nat} {a0 a1 a2:Value} (n0 n1 n2:Value) (hg:Grow w0 w) (hge:w0.heap.size≤g) (h:w.heap[g]? = some (.cells #[a0,a1,a2] T (0,0))) :
    (((w.setCell ⟨g,0,none⟩ n0).setCell ⟨g,1,none⟩ n1).setCell ⟨g,2,none⟩ n2).heap[g]? = some (.cells #[n0,n1,n2] T (0,0))∧Grow w0 (((w.setCell ⟨g,0,none⟩ n0).setCell ⟨g,1,none⟩ n1).setCell ⟨g,2,none⟩ n2):=by
 refine ⟨?_,(((hg.setCell (p:=⟨g,0,none⟩) (.inr hge) _).setCell (p:=⟨g,1,none⟩) (.inr hge) _).setCell (p:=⟨g,2,none⟩) (.inr hge) _)⟩
 simp only [World.setCell,Array.getElem?_modify]
 simp [h]
def arenaB (a:List (List Int)):List Int:=bytesW (upto (fun k=>(k,wat a.flatten k)) a.flatten.length)
theorem zKF (a:List (List Int)):(arenaB a).length=8*a.flatten.length:=by unfold arenaB;rw [zAA,znA];omega
theorem ztC (a:List (List Int)):∀ c∈arenaB a,0≤c∧c≤255:=zLJ _
theorem zsF (a:List (List Int)) (ho:OkA a) (hfl:a.flatten.length≤1000000) (A:Option Addr) (c:Nat) (w:World) (hR:RowsR .u64 a (.slice A a.length c) w) :
    Calls Tryz.prog 138 #[.slice A a.length c] w fun e w'=>∃ v,e=.returned v∧Grow w w'∧w'.ownsRow w.heap.size 5 1 v (arenaB a).length (u8s (arenaB a)):=zpF a ho hfl A c w hR
def maniB (session:Int) (a:List (List Int)):List Int:=putB session 8++(szs a).flatMap (fun x=>putB x 2)++arenaB a
def sumP (session:Int) (a:List (List Int)):Nat:=moreN 0 (maniB session a)
def MPost (session:Int) (a:List (List Int)) (w:World) (e:Ending) (w':World):Prop :=
 ∃ A c,e=.returned (.tuple #[.agg #[.int .u64 session,.slice A (szs a).length c,.int .u32 (sumP session a:Nat)],.int .u16 0])∧Grow w w'∧∃ F,Foot (SliceR 1 (.slice A (szs a).length c) (szs a).length (ints (szs a))) w' F∧∀ k,F k→w.heap.size≤k
theorem ztF (session:Int) (h0:0≤session) (h1:session≤18446744073709551615) (a:List (List Int)) (ho:OkA a) (hfit:fitsB (szs a)=true) (hfl:a.flatten.length≤1000000) (A:Option Addr) (c:Nat) (w:World) (hR:RowsR .u64 a (.slice A a.length c) w) :
    Calls Tryz.prog 61 #[.int .u64 session,.slice A a.length c] w (MPost session a w):=by
 have hg0:=(Keep.refl NoB w).alloc (.cells #[qN,qI,qO] 40)
 have HM:=LH (heap_alloc_new w (.cells #[qN,qI,qO] 40))
 have HG:=LH hg0
 have H:=LH hR
 have HO:=LH ho
 have HF:=LH hfit
 clear hR ho hg0 hfit
 go_enter Tryz.func61,Tryz.ntmps61
 go_wp2_with fail
 refine (zbD a _ _ (H.out.grow HG.out) HO.out).mono ?_
 rintro e w1 ⟨rfl,hg⟩
 rw [HF.out]
 replace HM:=LH (hg.heap HM.out)
 replace HG:=LH (HG.out.grow hg)
 clear hg
 go_wp2_with fail
 refine (zzG w1).mono ?_
 rintro e w2 ⟨rfl,hg,ht⟩
 have hM1:=(gE HM.out).1
 have hsz:=hg.size
 have hT1:=(gE ht).1
 have hd2:=zU w2 (.cells #[.pointer (some ⟨w1.heap.size,0,none⟩)] 204) (.cells #[qO] 38)
 have HS:Hid (OfS w w1.heap.size w2.heap.size (w2.heap.size+1) 0 ((w2.alloc (.cells #[.pointer (some ⟨w1.heap.size,0,none⟩)] 204)).alloc (.cells #[qO] 38))) :=
  LH ⟨Grow.heap hd2.2.2 (hg.heap HM.out),ht.grow hd2.2.2,hd2.1,hd2.2.1,(HG.out.grow hg).grow hd2.2.2,hM1,hT1,by omega⟩
 clear hg ht hd2 hM1 hsz hT1
 go_wp2_with fail
 refine (zyB a _ _ (H.out.grow HS.out.grow) HO.out.segs).mono ?_
 rintro e w3 ⟨A3,c3,rfl,hg,hoz⟩
 have hg9:=(Keep.refl NoB w3).alloc (.cells #[.int .u64 session,.slice A3 (szs a).length c3,qO] 40)
 have hS7:=(gE (HS.out.later hg).s7).1
 have HT:Hid (OfT w w1.heap.size w2.heap.size (w2.heap.size+1) w3.heap.size 0 session (szs a) A3 c3 (fun k=>(Value.slice A3 (szs a).length c3).ownBlock=some k) (w3.alloc (.cells #[.int .u64 session,.slice A3 (szs a).length c3,qO] 40))) :=
  LH ⟨(HS.out.later hg).later hg9,heap_alloc_new w3 _,(Foot.of_own hoz).grow hg9,(fun k hk=>by have h1:=(hoz.lt k hk).1;have h2:=(gE HS.out.s7).1;have h3:=(hoz.lt k hk).2;omega),hS7⟩
 clear hg hoz hg9 hS7 HS
 go_wp2_with fail
 refine (zLB session 8 _ h0 h1 (by omega) (by omega)).mono ?_
 rintro e w4 ⟨A4,c4,rfl,hg,hob⟩
 replace HT:=LH (HT.out.later hg)
 have HB4:=LH (SliceR.of_own hob)
 have hlen8:=zX session 8
 clear hg hob
 go_wp2_with fail
 refine (znB HT.out.st (by omega) (putB session 8) (by omega) (zAB _ _) A4 c4 HB4.out).mono ?_
 rintro e w5 ⟨⟨v5,rfl⟩,rfl⟩
 replace HT:=LH (HT.out.set (moreN 0 (putB session 8)))
 clear HB4 hlen8
 generalize w4.setCell ⟨w2.heap.size+1,0,none⟩ (.int .u32 (moreN 0 (putB session 8):Nat))=w6 at HT ⊢
 obtain ⟨m0,m1,m2,mf⟩:=zI HT.out.man
 have hseg:(szs a).length≤16:=by
  have:=HF.out
  unfold fitsB at this
  simp only [decide_eq_true_eq] at this
  exact this.2.1
 go_wp2
 clear m0 m1 m2 mf
 go_loopw [29] (fun v wr=>∃ k:Nat,k≤(szs a).length∧v=.int .i64 k∧Hid (OfT w w1.heap.size w2.heap.size (w2.heap.size+1) w3.heap.size (moreN 0 (putB session 8++((szs a).take k).flatMap (fun x=>putB x 2))) session (szs a) A3 c3 (fun k=>(Value.slice A3 (szs a).length c3).ownBlock=some k) wr)) (fun v _=>(szs a).length-(intOf v).toNat)
 case atStart=>exact ⟨0,by omega,rfl,by simpa using HT⟩
 case round =>
  clear HT
  obtain ⟨k,hk,rfl,HT⟩:=hrel
  have hbs:∀ x∈putB session 8++((szs a).take k).flatMap (fun x=>putB x 2),0≤x∧x≤255:=by
   intro x hx
   rcases List.mem_append.1 hx with e | e
   ·exact zAB _ _ x e
   ·obtain ⟨y,_,hy⟩:=List.mem_flatMap.1 e
    exact zAB _ _ x hy
  have hml:=zrF (n:=0) (by omega) hbs
  have Hbs:=LH hbs
  clear hbs
  by_cases hlt:k<(szs a).length
  ·have hlt':(k:Int)<(szs a).length:=by omega
   have hw:IntKind.i64.wrap ((k:Int)+1)=(k:Int)+1:=IntWalk.i64_in _ (by omega)
   obtain ⟨ad,rfl,q1⟩:=SliceR.int_at (k:=.i64) HT.out.zr.now k hlt
   have hx:=zZF HO.out _ (List.getElem_mem hlt)
   have hx0:=hx.1
   have hx1:=hx.2
   have Hsu:Hid (putB session 8++((szs a).take (k+1)).flatMap (fun x=>putB x 2)=(putB session 8++((szs a).take k).flatMap (fun x=>putB x 2))++putB (szs a)[k] 2):=LH (by
    rw [List.take_succ_eq_append_getElem hlt,List.flatMap_append,List.append_assoc]
    simp only [List.flatMap_cons,List.flatMap_nil,List.append_nil])
   clear hx
   go_wp2_with fail
   refine (zLB (szs a)[k] 2 _ hx0 (by omega) (by omega) (by omega)).mono ?_
   rintro e w7 ⟨A7,c7,rfl,hg,hob⟩
   replace HT:=LH (HT.out.later hg)
   have HB7:=LH (SliceR.of_own hob)
   have hlen2:=zX (szs a)[k] 2
   clear hg hob q1
   go_wp2_with fail
   refine (znB HT.out.st hml (putB (szs a)[k] 2) (by omega) (zAB _ _) A7 c7 HB7.out).mono ?_
   rintro e w8 ⟨⟨v8,rfl⟩,rfl⟩
   rw [zsC,← Hsu.out]
   replace HT:=LH (HT.out.set (moreN 0 (putB session 8++((szs a).take (k+1)).flatMap (fun x=>putB x 2))))
   clear HB7 hlen2
   go_wp2
   go_roundw
   case rel=>exact ⟨k+1,by omega,by go_num,HT⟩
   case measure=>simp [intOf];omega
  ·obtain rfl:k=(szs a).length:=by omega
   have hlt':¬ (((szs a).length:Int)<(szs a).length):=by omega
   rw [List.take_length] at HT hml
   go_wp2_with fail
   refine (zsF a HO.out hfl A c _ (H.out.grow HT.out.st.grow)).mono ?_
   rintro e w7 ⟨v7,rfl,hg,hob⟩
   replace HT:=LH (HT.out.later hg)
   obtain ⟨A7,c7,rfl,_⟩:=zK hob
   have HB7:=LH (SliceR.of_own hob)
   clear hg hob
   have hbl:(arenaB a).length≤1000000000:=by rw [zKF];omega
   go_wp2_with fail
   refine (znB HT.out.st hml (arenaB a) hbl (ztC a) A7 c7 HB7.out).mono ?_
   rintro e w8 ⟨⟨v8,rfl⟩,rfl⟩
   rw [zsC]
   have hsum:moreN 0 (putB session 8++(szs a).flatMap (fun x=>putB x 2)++arenaB a)=sumP session a:=rfl
   rw [hsum]
   replace HT:=LH (HT.out.set (sumP session a))
   clear HB7 hbl hsum hml
   generalize w7.setCell ⟨w2.heap.size+1,0,none⟩ (.int .u32 (sumP session a:Nat))=cw at HT ⊢
   obtain ⟨m0,m1,m2,mf⟩:=zI HT.out.man
   obtain ⟨r0,r1,r2,rf⟩:=zI HT.out.st.res
   have q7:=cell0 HT.out.st.s7
   have hlo:=HT.out.st.lo
   have hlo2:=HT.out.lo
   have hn1:w3.heap.size≠w.heap.size:=by omega
   have hn2:w.heap.size≠w3.heap.size:=by omega
   have HR2:=LH ((zt (w:=cw) (p:=⟨w3.heap.size,2,none⟩) (.int .u32 (sumP session a:Nat)) (by simpa using hn2)).trans HT.out.st.res)
   have HG2:=LH (HT.out.st.grow.setCell (p:=⟨w3.heap.size,2,none⟩) (.inr (by simp;omega)) (.int .u32 (sumP session a:Nat)))
   have HST:=LH (zYE (.int .u64 session) (.slice A3 (szs a).length c3) (.int .u32 (sumP session a:Nat)) HG2.out (Nat.le_refl _) HR2.out)
   have HZ2:Hid (∃ F,Foot (SliceR 1 (.slice A3 (szs a).length c3) (szs a).length (ints (szs a))) ((((cw.setCell ⟨w3.heap.size,2,none⟩ (.int .u32 (sumP session a:Nat))).setCell ⟨w.heap.size,0,none⟩ (.int .u64 session)).setCell ⟨w.heap.size,1,none⟩ (.slice A3 (szs a).length c3)).setCell ⟨w.heap.size,2,none⟩ (.int .u32 (sumP session a:Nat))) F∧∀ k,F k→w.heap.size≤k):=by
    refine LH ⟨_,HT.out.zr.keep (((((Keep.refl (fun j=>j=w3.heap.size∨j=w.heap.size) cw).setCell (p:=⟨w3.heap.size,2,none⟩) (.inl (.inl rfl)) _).setCell (p:=⟨w.heap.size,0,none⟩) (.inl (.inr rfl)) _).setCell (p:=⟨w.heap.size,1,none⟩) (.inl (.inr rfl)) _).setCell (p:=⟨w.heap.size,2,none⟩) (.inl (.inr rfl)) _) (fun k hk e=>?_),fun k hk=>?_⟩
    ·have:=HT.out.hF k hk
     omega
    ·have:=HT.out.hF k hk
     omega
   clear hlo hlo2
   go_wp2
   (try simp only [Exit.inBlock,Exit.then])
   obtain ⟨s0,s1,s2,sf⟩:=zI HST.out.1
   refine bodyPost_ret (v:=.tuple #[.agg #[.int .u64 session,.slice A3 (szs a).length c3,.int .u32 (sumP session a:Nat)],.int .u16 0]) ?_ rfl ⟨A3,c3,rfl,HST.out.2,HZ2.out⟩
   rw [results_cell_tmp rfl];go_simp
theorem zgB (n m:Int) (w:World) (h:1≤n) (h2:n≤m) :
    Calls Tryz.prog 130 #[.int .i64 n,.int .i64 m] w fun e w'=>e=.returned (.bool true)∧w=w':=by
 go_enter Tryz.func130,Tryz.ntmps130
 go_wp2
 go_ret
 exact ⟨by simp,rfl⟩
structure OkC (win back retry quota:Int):Prop where
 win1:1≤win
 win2:win≤64
 back1:1≤back
 back2:back≤64
 retry1:1≤retry
 retry2:retry≤1000
 quota:0≤quota
theorem zuF (win back retry quota:Int) (h:OkC win back retry quota) (w:World) :
    Calls Tryz.prog 59 #[.agg #[.int .i64 win,.int .i64 back,.int .i64 retry,.int .i64 quota]] w fun e w'=>e=.returned (.bool true)∧Grow w w':=by
 have HG:=LH ((Keep.refl NoB w).alloc (.cells #[.int .i64 win,.int .i64 back,.int .i64 retry,.int .i64 quota] 26))
 have hq:=h.quota
 have H:=LH h
 clear h
 go_enter Tryz.func59,Tryz.ntmps59
 go_wp2_with fail
 refine (zgB win 64 _ H.out.win1 H.out.win2).mono ?_
 rintro e w1 ⟨rfl,rfl⟩
 go_wp2_with fail
 refine (zgB back 64 _ H.out.back1 H.out.back2).mono ?_
 rintro e w1 ⟨rfl,rfl⟩
 go_wp2_with fail
 refine (zgB retry 1000 _ H.out.retry1 H.out.retry2).mono ?_
 rintro e w1 ⟨rfl,rfl⟩
 go_wp2
 go_ret
 exact ⟨rfl,HG.out⟩
theorem zM {l:List Int} (h:fitsB l=true):1≤l.length∧l.length≤16∧(∀ x∈l,0≤x)∧l.sum≤4096:=by
 unfold fitsB at h
 simp only [decide_eq_true_eq] at h
 exact ⟨h.1,h.2.1,h.2.2.2.1,h.2.2.2.2⟩
theorem zbA {l:List Int} (h:∀ x∈l,0≤x):0≤l.sum:=by
 simpa using zl h 0
theorem zGB {l:List Int} (h:∀ x∈l,0≤x):∀ x∈l,x≤l.sum:=by
 induction l with
 | nil=>intro x hx;cases hx
 | cons y l ih =>
  intro x hx
  have h0:=h y (List.mem_cons_self ..)
  have h1:∀ x∈l,0≤x:=fun x hx=>h x (List.mem_cons_of_mem _ hx)
  have h2:0≤l.sum:=zbA h1
  rw [List.sum_cons]
  rcases List.mem_cons.1 hx with rfl | hx
  ·omega
  ·have:=ih h1 x hx;omega
theorem zuC (session:Int) (sum:Nat) (A:Option Addr) (c:Nat) (l:List Int) (w:World) (h:SliceR 1 (.slice A l.length c) l.length (ints l) w) (hf:fitsB l=true) :
    Calls Tryz.prog 139 #[.agg #[.int .u64 session,.slice A l.length c,.int .u32 (sum:Nat)]] w fun e w'=>e=.returned (.bool true)∧Grow w w':=by
 have HG:=LH ((Keep.refl NoB w).alloc (.cells #[.int .u64 session,.slice A l.length c,.int .u32 (sum:Nat)] 40))
 have H:=LH h
 have HF:=LH hf
 have HB:Hid (∀ x∈l,-9223372036854775808≤x∧x≤9223372036854775807):=LH (by
  intro x hx
  obtain ⟨_,_,h3,h4⟩:=zM hf
  have:=h3 x hx
  have:=zGB h3 x hx
  omega)
 clear h hf
 go_enter Tryz.func139,Tryz.ntmps139
 go_wp2_with fail
 refine (zhB A c l _ (H.out.grow HG.out) HB.out).mono ?_
 rintro e w1 ⟨rfl,rfl⟩
 rw [HF.out]
 go_wp2
 go_ret
 exact ⟨rfl,HG.out⟩
theorem zTA (session:Int) (sum:Nat) (A:Option Addr) (c:Nat) (l:List Int) (w:World) (h:SliceR 1 (.slice A l.length c) l.length (ints l) w) (hf:fitsB l=true) :
    Calls Tryz.prog 102 #[.agg #[.int .u64 session,.slice A l.length c,.int .u32 (sum:Nat)]] w fun e w'=>e=.returned (.int .i64 l.sum)∧Grow w w':=by
 have HG:=LH ((Keep.refl NoB w).alloc (.cells #[.int .u64 session,.slice A l.length c,.int .u32 (sum:Nat)] 40))
 have H:=LH h
 have HF:=LH hf
 clear h hf
 go_enter Tryz.func102,Tryz.ntmps102
 go_wp2_with fail
 refine (zuC session sum A c l _ (H.out.grow HG.out) HF.out).mono ?_
 rintro e w1 ⟨rfl,hg⟩
 have HM:=LH (hg.heap (heap_alloc_new w (.cells #[.int .u64 session,.slice A l.length c,.int .u32 (sum:Nat)] 40)))
 obtain ⟨m0,m1,m2,mf⟩:=zI HM.out
 replace HG:=LH (HG.out.grow hg)
 clear hg
 obtain ⟨hl1,hl2,hl3,hl4⟩:=zM HF.out
 have HL3:=LH hl3
 clear hl3
 go_wp2
 clear m0 m1 m2 mf
 go_loopw [3,12] (fun s v wr=>∃ k:Nat,k≤l.length∧v=.int .i64 k∧s=.int .i64 (l.take k).sum∧w1=wr) (fun s v _=>l.length-(intOf v).toNat)
 case atStart=>exact ⟨0,by omega,rfl,by simp,rfl⟩
 case round =>
  obtain ⟨k,hk,rfl,rfl,rfl⟩:=hrel
  by_cases hlt:k<l.length
  ·have hlt':(k:Int)<l.length:=by omega
   have hw:IntKind.i64.wrap ((k:Int)+1)=(k:Int)+1:=IntWalk.i64_in _ (by omega)
   obtain ⟨ad,rfl,q1⟩:=SliceR.int_at (k:=.i64) (H.out.grow HG.out) k hlt
   have hx0:=HL3.out _ (List.getElem_mem hlt)
   have h1:=zl HL3.out k
   have h2:=zl HL3.out (k+1)
   have h0:0≤(l.take k).sum:=zbA (fun x hx=>HL3.out x (List.mem_of_mem_take hx))
   have h3:=zw hlt
   have hw2:IntKind.i64.wrap ((l.take k).sum+l[k])=(l.take k).sum+l[k]:=IntWalk.i64_in _ (by omega)
   go_wp2
   go_roundw
   case rel=>exact ⟨k+1,by omega,by go_num,by rw [h3],trivial⟩
   case measure=>simp [intOf];omega
  ·obtain rfl:k=l.length:=by omega
   have hlt':¬ ((l.length:Int)<l.length):=by omega
   rw [List.take_length]
   go_wp2
   go_ret
   exact ⟨rfl,HG.out⟩
def chunksN (l:List Int):Nat:=(l.sum.toNat+7)/8
def pagesN (l:List Int):Nat:=(l.length+3)/4
theorem zg (session:Int) (sum:Nat) (A:Option Addr) (c:Nat) (l:List Int) (w:World) (h:SliceR 1 (.slice A l.length c) l.length (ints l) w) (hf:fitsB l=true) :
    Calls Tryz.prog 64 #[.agg #[.int .u64 session,.slice A l.length c,.int .u32 (sum:Nat)]] w fun e w'=>e=.returned (.int .i64 (chunksN l:Nat))∧Grow w w':=by
 have HG:=LH ((Keep.refl NoB w).alloc (.cells #[.int .u64 session,.slice A l.length c,.int .u32 (sum:Nat)] 40))
 have H:=LH h
 have HF:=LH hf
 clear h hf
 go_enter Tryz.func64,Tryz.ntmps64
 go_wp2_with fail
 refine (zTA session sum A c l _ (H.out.grow HG.out) HF.out).mono ?_
 rintro e w1 ⟨rfl,hg⟩
 replace HG:=LH (HG.out.grow hg)
 clear hg
 obtain ⟨hl1,hl2,hl3,hl4⟩:=zM HF.out
 have h0:0≤l.sum:=zbA hl3
 clear hl3
 go_wp2_with fail
 refine (zwD l.sum 8 _ (by omega) (by omega) (by omega) (by omega)).mono ?_
 rintro e w2 ⟨rfl,rfl⟩
 have he:(l.sum+8-1)/8=(chunksN l:Nat):=by unfold chunksN;omega
 rw [he]
 go_wp2
 go_ret
 exact ⟨rfl,HG.out⟩
end Go.Proofs.YtfkcpaahdlkcdaaGreat
namespace Go.Proofs.YtfkcpaahdlkcdaaGreat
open Go.RowKit Go.Shelf
attribute [local go_sem] Oper.semAt_some
theorem zLF (v:Value) (l:List Int) (w:World) (h:SliceR 1 v l.length (u64s l) w) (hl:l.length≤1000000) :
    Calls Tryz.prog 184 #[v] w fun e w'=>∃ A c,e=.returned (.slice A l.length c)∧w'.ownsRow w.heap.size 22 1 (.slice A l.length c) l.length (u64s l)∧Grow w w':=by
 have Hs:=LH ((h.grow ((Keep.refl _ _).alloc (.cells #[] 22))).src zCA (zsA l))
 have HL:=LH hl
 clear hl
 have hq:=zVE zCA
 obtain ⟨A,c,rfl,hlc,_,hA,_⟩:=h
 cases A with
 | none =>
  have h0:l=[]:=List.eq_nil_of_length_eq_zero (by have:=hA rfl;omega)
  subst h0
  go_enter Tryz.func184,Tryz.ntmps184
  go_wp2
  go_ret
  exact ⟨none,0,rfl,World.ownsRow_nil _ _ _ _,Keep.refl _ _⟩
 | some ad =>
  go_enter Tryz.func184,Tryz.ntmps184
  go_wp2_with (at_builtin;refine zL _ rfl _ _ 111 111 rfl w.heap.size 22 (.int .u64 0) 1 8 zCA zj rfl (.slice (some ⟨w.heap.size,0,none⟩) 0 0) 0 [] rfl (.slice (some ad) l.length c) l.length (u64s l) rfl ?_ ?c0 ?c1 ?c2 ?c3 ?c4;intro v' w' hap)
  case c0=>exact World.ownsRow_made w #[] 0 (Nat.le_refl _) (by simp [maxLen]) rfl
  case c1=>exact Hs.out
  case c2=>have:=HL.out;simp only [maxLen];omega
  case c3=>have:=HL.out;omega
  case c4=>simp
  have ho:=hap.own
  simp only [Nat.zero_add,List.nil_append] at ho
  have hg:=((Keep.refl NoB w).alloc (.cells #[] 22)).grown hap.grew (by simp [Value.ownBlock])
  clear hap
  obtain ⟨A,c2,rfl,_⟩:=zK ho
  go_wp2
  go_ret
  exact ⟨_,_,rfl,ho,hg⟩
def popN (c:Nat):Nat:=(bitL c).length
theorem pop_le:∀ c:Fin 256,popN c.1≤8:=by decide +kernel
theorem zKI (c:Nat) (hc:c<256) (w:World):Calls Tryz.prog 185 #[.int .u8 c] w fun e w'=>e=.returned (.int .i64 (popN c:Nat))∧w=w':=by
 have h0:(0:Int)≤c:=by omega
 have h1:(c:Int)≤255:=by omega
 go_enter Tryz.func185,Tryz.ntmps185
 go_wp2
 go_ret
 refine ⟨?_,rfl⟩
 have key:∀ x:Int,x=(popN c:Nat)→Ending.returned (Value.int .i64 x)=Ending.returned (.int .i64 (popN c:Nat)):=by rintro _ rfl;rfl
 refine key _ ?_
 have at_:∀ (A:ByteArray) (h:c<A.size),A[c]=A.data.toList.getD c 0:=fun A h=>by
  rw [List.getD_eq_getElem?_getD,List.getElem?_eq_getElem (by simpa using h)]
  rfl
 rw [at_]
 clear at_ key
 obtain ⟨d,rfl⟩:∃ d:Fin 256,d.1=c:=⟨⟨c,hc⟩,rfl⟩
 rename_i hx;clear hx h0 h1 hc;revert d
 decide +kernel
def popB (bs:List Int):Nat:=(eachL bs).length
theorem zqE (bs:List Int) (k:Nat):(eachT bs (k+1)).length=(eachT bs k).length+popN (bs.getD k 0).toNat:=by
 rw [zJI,List.length_append,List.length_map];rfl
theorem zyF (bs:List Int) (hb:OkB bs):∀ k,(eachT bs k).length≤8*k
 | 0=>by simp [eachT]
 | k + 1 => by
  rw [zqE]
  have h1:=zyF bs hb k
  have h2:(bs.getD k 0).toNat<256:=by
   rw [List.getD_eq_getElem?_getD]
   cases h:bs[k]? with
   | none=>simp
   | some x =>
    have:=hb x (List.mem_of_getElem? h)
    simp
    omega
  have h3:=pop_le ⟨_,h2⟩
  dsimp only at h3
  omega
theorem zoB (A:Option Addr) (c:Nat) (bs:List Int) (hb:OkB bs) (hlen:bs.length≤100000) (w:World) (h:SliceR 1 (.slice A bs.length c) bs.length (u8s bs) w) :
    Calls Tryz.prog 116 #[.slice A bs.length c] w fun e w'=>e=.returned (.int .i64 (popB bs:Nat))∧w=w':=by
 have H:=LH h
 have HB:=LH hb
 clear h hb
 go_enter Tryz.func116,Tryz.ntmps116
 go_wp2
 go_loopw [3,5,8] (fun vn vc v wr=>wr=w∧∃ (k n:Nat),k≤bs.length∧v=.int .i64 k∧vn=.int .i64 n∧Hid (n=(eachT bs k).length)∧n≤8*k) (fun _ _ v _=>bs.length-(intOf v).toNat)
 case atStart=>exact ⟨rfl,0,0,by omega,rfl,rfl,LH (by simp [eachT]),by omega⟩
 case round =>
  obtain ⟨rfl,k,n,hk,rfl,rfl,HN,hn8⟩:=hrel
  by_cases hlt:k<bs.length
  ·have hlt':(k:Int)<bs.length:=by omega
   have hw:IntKind.i64.wrap ((k:Int)+1)=(k:Int)+1:=IntWalk.i64_in _ (by omega)
   obtain ⟨ad,rfl,q0⟩:=SliceR.int_at (k:=.u8) H.out k hlt
   have hx:=HB.out _ (List.getElem_mem hlt)
   obtain ⟨c0,hc0⟩:∃ c0:Nat,bs[k]=c0:=⟨bs[k].toNat,by omega⟩
   have hbd:(bs.getD k 0).toNat=c0:=by rw [List.getD_eq_getElem?_getD,List.getElem?_eq_getElem hlt,Option.getD_some,hc0];rfl
   have hlen2:=zqE bs k
   have hle2:=zyF bs HB.out (k+1)
   rw [hbd] at hlen2
   rw [hc0] at q0
   have hc256:c0<256:=by omega
   have HE:Hid (n+popN c0=(eachT bs (k+1)).length∧n+popN c0≤8*(k+1)):=LH (by have:=HN.out;omega)
   have hw2:IntKind.i64.wrap ((n:Int)+(popN c0:Nat))=(n:Int)+(popN c0:Nat):=IntWalk.i64_in _ (by have:=HE.out;omega)
   clear hx hc0 hbd hlen2 hle2 HN
   go_wp2_with fail
   refine (zKI c0 hc256 wr).mono ?_
   rintro e w1 ⟨rfl,rfl⟩
   go_wp2
   go_roundw
   case rel=>exact ⟨trivial,k+1,n+popN c0,by omega,by go_num,by go_num,LH HE.out.1,HE.out.2⟩
   case measure=>simp [intOf];omega
  ·obtain rfl:k=bs.length:=by omega
   have hlt':¬ ((bs.length:Int)<bs.length):=by omega
   have HE:Hid ((popB bs:Nat)=n):=LH (by rw [HN.out];rfl)
   clear HN
   go_wp2
   go_ret
   exact ⟨by rw [HE.out];rfl,rfl⟩
def sizeN (l:List Int) (i:Nat):Int:=min 64 (8*l.sum-64*i)
theorem zeD (session:Int) (sum:Nat) (A:Option Addr) (c:Nat) (l:List Int) (w:World) (h:SliceR 1 (.slice A l.length c) l.length (ints l) w) (hf:fitsB l=true) (i:Nat) (hi:i<chunksN l) :
    Calls Tryz.prog 168 #[.agg #[.int .u64 session,.slice A l.length c,.int .u32 (sum:Nat)],.int .i64 i] w fun e w'=>e=.returned (.int .i64 (sizeN l i))∧Grow w w':=by
 have HG:=LH ((Keep.refl NoB w).alloc (.cells #[.int .u64 session,.slice A l.length c,.int .u32 (sum:Nat)] 40))
 have H:=LH (h.grow HG.out)
 have HC:=LH (heap_alloc_new w (.cells #[.int .u64 session,.slice A l.length c,.int .u32 (sum:Nat)] 40))
 have HF:=LH hf
 obtain ⟨m0,m1,m2,mf⟩:=zI HC.out
 obtain ⟨hl1,hl2,hnn,hsum⟩:=zM hf
 have hq:chunksN l≤512:=by unfold chunksN;omega
 have hs0:0≤l.sum:=by have:=zbA hnn;omega
 have hi0:0≤(i:Int):=by omega
 have hi0':¬ ((i:Int)<0):=by omega
 have hi1:¬ ((chunksN l:Int)≤(i:Int)):=by omega
 clear h hf hnn
 go_enter Tryz.func168,Tryz.ntmps168
 go_wp2_with fail
 refine (zg session sum A c l _ H.out HF.out).mono ?_
 rintro e w1 ⟨rfl,hg⟩
 replace HG:=LH (HG.out.grow hg)
 replace H:=LH (H.out.grow hg)
 replace HC:=LH (Grow.heap hg HC.out)
 clear hg m0 m1 m2 mf
 obtain ⟨m0,m1,m2,mf⟩:=zI HC.out
 go_wp2_with fail
 refine (zTA session sum A c l _ H.out HF.out).mono ?_
 rintro e w2 ⟨rfl,hg⟩
 replace HG:=LH (HG.out.grow hg)
 have hw1:IntKind.i64.wrap (l.sum*8)=l.sum*8:=IntWalk.i64_in _ (by omega)
 have hw2:IntKind.i64.wrap ((i:Int)*64)=(i:Int)*64:=IntWalk.i64_in _ (by omega)
 have hw3:IntKind.i64.wrap (l.sum*8-(i:Int)*64)=l.sum*8-(i:Int)*64:=IntWalk.i64_in _ (by omega)
 have HE:Hid (sizeN l i=min 64 (l.sum*8-(i:Int)*64)):=LH (by unfold sizeN;omega)
 clear hg
 by_cases hm:64≤l.sum*8-(i:Int)*64
 ·have HM:Hid (min 64 (l.sum*8-(i:Int)*64)=64):=LH (by omega)
  go_wp2
  go_ret
  refine ⟨?_,HG.out⟩
  rw [HE.out,HM.out]
  rfl
 ·have HM:Hid (min 64 (l.sum*8-(i:Int)*64)=l.sum*8-(i:Int)*64):=LH (by omega)
  go_wp2
  go_ret
  refine ⟨?_,HG.out⟩
  rw [HE.out,HM.out]
  rfl
end Go.Proofs.YtfkcpaahdlkcdaaGreat
namespace Go.Proofs.YtfkcpaahdlkcdaaGreat
open Go.RowKit
theorem zRB:(Tryz.prog.info? 111).map (fun i=>(i.zero,i.size,i.bytes))=some (some (.slice none 0 0),1,24):=by kernel_rfl
theorem zx:Tryz.prog.underlying 111=some (.slice 22):=by kernel_rfl
theorem zBB:Tryz.prog.underlying 29=some (.slice 111):=by kernel_rfl
def UnA (A:Option Addr) (n:Nat) (w:World):Prop:=n≠0→∀ ad,A=some ad→ad.block<w.heap.size∧∀ o,w.frozen? ⟨ad.block,o,none⟩=false
theorem UnA.grow {A:Option Addr} {n:Nat} {w w':World} (h:UnA A n w) (hg:Grow w w'):UnA A n w':=fun hn ad e=>⟨Nat.lt_of_lt_of_le (h hn ad e).1 hg.size,fun o=>(hg.frozen (p:=⟨ad.block,o,none⟩) (h hn ad e).1 (fun h=>h)).trans ((h hn ad e).2 o)⟩
theorem Foot.of_ownU {base e size n c:Nat} {A:Option Addr} {xs:List Value} {w:World} (h:w.ownsRow base e size (.slice A n c) n xs):Foot (fun u=>SliceR size (.slice A n c) n xs u∧UnA A n u) w (fun k=>(Value.slice A n c).ownBlock=some k):=by
 refine ⟨fun k hk=>(h.lt k hk).2,fun W' hW=>⟨(Foot.of_own h).2 W' hW,fun hn ad hA=>?_⟩⟩
 obtain ⟨k,cap,e1,hk,_,_⟩:=zMA h (by omega)
 injection e1 with e1 _ e3
 subst e1
 subst e3
 injection hA with hA
 subst hA
 have hlt:=(h.lt k hk).2
 have he:=hW k hk
 refine ⟨?_,fun o=>?_⟩
 ·show k<W'.heap.size
  rcases Nat.lt_or_ge k W'.heap.size with h9 | h9
  ·exact h9
  ·rw [Array.getElem?_eq_none h9,Array.getElem?_eq_getElem hlt] at he;cases he
 ·rw [World.frozen?_of_block (w:=w) he]
  exact h.frozenAt _
def HdR (a:List (List Int)) (vs:List Value) (w:World):Prop:=vs.length=a.length∧∀ i (h:i<a.length),∃ A c,vs[i]? = some (.slice A a[i].length c)∧SliceR 1 (.slice A a[i].length c) a[i].length (u64s a[i]) w∧UnA A a[i].length w
def RowsU (a:List (List Int)) (v:Value) (w:World):Prop :=
 ∃ A c,v=.slice A a.length c∧∀ i (h:i<a.length),∃ ad A' c',A=some ad∧w.cell? (ad.add i)=some (.slice A' a[i].length c')∧SliceR 1 (.slice A' a[i].length c') a[i].length (u64s a[i]) w∧UnA A' a[i].length w
theorem RowsU.rows {a:List (List Int)} {v:Value} {w:World} (h:RowsU a v w):RowsR .u64 a v w:=by
 obtain ⟨A,c,e,hr⟩:=h
 exact ⟨A,c,e,fun i hi=>by
  obtain ⟨ad,A',c',h1,h2,h3,_⟩:=hr i hi
  exact ⟨ad,A',c',h1,h2,h3⟩⟩
theorem RowsU.at_ {a:List (List Int)} {A:Option Addr} {c:Nat} {w:World} (h:RowsU a (.slice A a.length c) w) (i:Nat) (hi:i<a.length):∃ ad A' c',A=some ad∧w.cell? (ad.add i)=some (.slice A' a[i].length c')∧SliceR 1 (.slice A' a[i].length c') a[i].length (u64s a[i]) w∧UnA A' a[i].length w:=by
 obtain ⟨A9,c9,e,hr⟩:=h
 injection e with e1 _ e3
 subst e1
 exact hr i hi
theorem RowsU.grow {a:List (List Int)} {v:Value} {w w':World} (h:RowsU a v w) (hg:Grow w w'):RowsU a v w':=by
 obtain ⟨A,c,e,hr⟩:=h
 exact ⟨A,c,e,fun i hi=>by
  obtain ⟨ad,A',c',h1,h2,h3,h4⟩:=hr i hi
  exact ⟨ad,A',c',h1,hg.cell h2 (fun h=>h),h3.grow hg,h4.grow hg⟩⟩
theorem HdR.grow {a:List (List Int)} {vs:List Value} {w w':World} (h:HdR a vs w) (hg:Grow w w'):HdR a vs w':=⟨h.1,fun i hi=>by
 obtain ⟨A,c,h1,h2,h3⟩:=h.2 i hi
 exact ⟨A,c,h1,h2.grow hg,h3.grow hg⟩⟩
theorem HdR.one {a:List (List Int)} {vs:List Value} {w:World} (h:HdR a vs w):∀ u∈vs,u.oneCell'=true:=fun u hu=>by
 obtain ⟨i,hi,rfl⟩:=List.getElem_of_mem hu
 obtain ⟨A,c,h1,_⟩:=h.2 i (by have:=h.1;omega)
 rw [List.getElem?_eq_getElem hi] at h1
 injection h1 with h1
 rw [h1];rfl
theorem RowsU.heads {a:List (List Int)} {A:Option Addr} {c:Nat} {w:World} (h:RowsU a (.slice A a.length c) w):∃ vs,HdR a vs w∧∀ j u,vs[j]? = some u→∃ ad,A=some ad∧w.cell? (ad.add j)=some u:=by
 have hq:∀ n,n≤a.length→∃ vs:List Value,vs.length=n∧∀ i (hi:i<n),∃ ad A' c',A=some ad∧vs[i]? = some (.slice A' (a.getD i []).length c')∧w.cell? (ad.add i)=some (.slice A' (a.getD i []).length c')∧SliceR 1 (.slice A' (a.getD i []).length c') (a.getD i []).length (u64s (a.getD i [])) w∧UnA A' (a.getD i []).length w:=by
  intro n
  induction n with
  | zero=>exact fun _=>⟨[],rfl,fun i hi=>by omega⟩
  | succ n ih =>
   intro hn
   obtain ⟨vs,hl,hv⟩:=ih (by omega)
   obtain ⟨ad,A',c',h1,h2,h3,h4⟩:=RowsU.at_ h n (by omega)
   have hg:a.getD n []=a[n]:=by simp [show n<a.length by omega]
   refine ⟨vs++[.slice A' a[n].length c'],by simp [hl],fun i hi=>?_⟩
   by_cases hin:i<n
   ·obtain ⟨ad2,A2,c2,k1,k2,k3,k4⟩:=hv i hin
    exact ⟨ad2,A2,c2,k1,by rw [List.getElem?_append_left (by omega)];exact k2,k3,k4⟩
   ·obtain rfl:i=n:=by omega
    rw [hg]
    exact ⟨ad,A',c',h1,by rw [List.getElem?_append_right (by omega)];simp [hl],h2,h3,h4⟩
 obtain ⟨vs,hl,hv⟩:=hq a.length (Nat.le_refl _)
 refine ⟨vs,⟨hl,fun i hi=>?_⟩,fun j u hu=>?_⟩
 ·obtain ⟨ad,A',c',k1,k2,k3,k4,k5⟩:=hv i hi
  have hg:a.getD i []=a[i]:=by simp [hi]
  rw [hg] at k2 k4 k5
  exact ⟨A',c',k2,k4,k5⟩
 ·have hj:j<a.length:=by have:=(List.getElem?_eq_some_iff.1 hu).1;omega
  obtain ⟨ad,A',c',k1,k2,k3,k4⟩:=hv j hj
  rw [k2] at hu
  injection hu with hu
  exact ⟨ad,k1,by rw [k3,hu]⟩
theorem RowsU.of_own {base:Nat} {a:List (List Int)} {vs:List Value} {A:Option Addr} {c:Nat} {w:World} (ho:w.ownsRow base 111 1 (.slice A a.length c) a.length vs) (h:HdR a vs w):RowsU a (.slice A a.length c) w:=by
 obtain ⟨A9,c9,e9,_,_,_,hcs⟩:=SliceR.of_own ho
 injection e9 with e9
 refine ⟨A,c,rfl,fun i hi=>?_⟩
 obtain ⟨A',c',h1,h2⟩:=h.2 i hi
 obtain ⟨ad,had,hc⟩:=hcs i _ h1
 exact ⟨ad,A',c',e9.trans had,hc,h2⟩
theorem RowsR.src {a:List (List Int)} {vs:List Value} {A:Option Addr} {c:Nat} {w:World} (h:HdR a vs w) (hc:∀ j u,vs[j]? = some u→∃ ad,A=some ad∧w.cell? (ad.add j)=some u):Src Tryz.prog 1 29 (.slice A a.length c) a.length vs w:=by
 cases A with
 | none =>
  have h0:vs=[]:=by
   cases vs with
   | nil=>rfl
   | cons x r=>obtain ⟨ad,e,_⟩:=hc 0 x rfl;cases e
  have h1:=h.1
  rw [h0] at h1 ⊢
  have h2:a.length=0:=h1.symm
  rw [h2]
  exact Src.ofNil w zBB c
 | some ad =>
  refine Src.ofSlice w zBB ad a.length c vs (by rw [h.1,Nat.mul_one]) (fun j u hu=>?_) h.one
  obtain ⟨ad',e,hc'⟩:=hc j u hu
  injection e with e
  rw [e];exact hc'
theorem RowsU.of_slice {a:List (List Int)} {vs:List Value} {A:Option Addr} {c:Nat} {w:World} (ho:SliceR 1 (.slice A a.length c) a.length vs w) (h:HdR a vs w):RowsU a (.slice A a.length c) w:=by
 obtain ⟨A9,c9,e9,_,_,_,hcs⟩:=ho
 injection e9 with e9
 refine ⟨A,c,rfl,fun i hi=>?_⟩
 obtain ⟨A',c',h1,h2⟩:=h.2 i hi
 obtain ⟨ad,had,hc⟩:=hcs i _ h1
 exact ⟨ad,A',c',e9.trans had,hc,h2⟩
def NewF (F:Nat→Prop) (w w':World) (k:Nat):Prop:=F k∨(w.heap.size≤k∧k<w'.heap.size)
theorem RowsU.headsF {a:List (List Int)} {A:Option Addr} {c:Nat} {w:World} {F:Nat→Prop} (h:Foot (RowsU a (.slice A a.length c)) w F):∃ vs,Foot (HdR a vs) w F∧∀ j u,vs[j]? = some u→∃ ad,A=some ad∧w.cell? (ad.add j)=some u:=by
 obtain ⟨vs,hv,hc⟩:=h.now.heads
 refine ⟨vs,⟨h.1,fun W' hW=>⟨hv.1,fun i hi=>?_⟩⟩,hc⟩
 obtain ⟨A0,c0,h1,_⟩:=hv.2 i hi
 obtain ⟨ad,hA,hcell⟩:=hc i _ h1
 have hm:F (ad.add i).block:=Foot.cell_mem (p:=ad.add i) h (fun W2 h2=>by
  obtain ⟨ad2,A2,c2,e2,k2,_⟩:=RowsU.at_ h2 i hi
  rw [hA] at e2
  injection e2 with e2
  subst e2
  exact ⟨_,k2⟩)
 obtain ⟨ad2,A2,c2,e2,k2,k3⟩:=RowsU.at_ (h.2 W' hW) i hi
 rw [hA] at e2
 injection e2 with e2
 subst e2
 have he:W'.cell? (ad.add i)=w.cell? (ad.add i):=by unfold World.cell?;rw [hW _ hm]
 rw [he,hcell] at k2
 injection k2 with k2
 exact ⟨A2,c2,by rw [h1,k2],k3⟩
theorem HdR.set {a:List (List Int)} {vs:List Value} {w:World} (h:HdR a vs w) (i:Nat) (hi:i<a.length) (s:List Int) (A:Option Addr) (c:Nat) (hs:SliceR 1 (.slice A s.length c) s.length (u64s s) w) (hU:UnA A s.length w):HdR (a.set i s) (vs.set i (.slice A s.length c)) w:=by
 refine ⟨by rw [List.length_set,List.length_set];exact h.1,fun j hj=>?_⟩
 rw [List.length_set] at hj
 by_cases e:i=j
 ·subst e
  have h1:=h.1
  exact ⟨A,c,by rw [List.getElem?_set_self (by omega)];simp,by simpa using hs,by simpa using hU⟩
 ·obtain ⟨A',c',k1,k2,k3⟩:=h.2 j hj
  exact ⟨A',c',by rw [List.getElem?_set_ne e];simpa [List.getElem_set_ne e] using k1,by simpa [List.getElem_set_ne e] using k2,by simpa [List.getElem_set_ne e] using k3⟩
end Go.Proofs.YtfkcpaahdlkcdaaGreat

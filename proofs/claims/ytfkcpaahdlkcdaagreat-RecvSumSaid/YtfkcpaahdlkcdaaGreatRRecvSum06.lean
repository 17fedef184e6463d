import Derived.Test.YtfkcpaahdlkcdaaGreatRRecvSum01
import Derived.Test.YtfkcpaahdlkcdaaGreatRRecvSum05
import Derived.Test.YtfkcpaahdlkcdaaGreatProg
import Derived.LoopTactic
set_option linter.unusedSimpArgs false
set_option linter.unusedVariables false
set_option maxRecDepth 100000
set_option maxHeartbeats 16000000
namespace Go.Proofs.YtfkcpaahdlkcdaaGreat
open Go.RowKit
theorem ztE (a b:Nat):a ^^^ (a ^^^ b)=b:=by rw [← Nat.xor_assoc,Nat.xor_self,Nat.zero_xor]
theorem zkC (n:Nat) (xs ys:List Int):moreN (moreN n xs) ys=moreN n (xs++ys):=by
 unfold moreN
 rw [ztE]
 simp [crcN]
theorem zcF {n:Nat} (h:n<4294967296) {bs:List Int} (hb:∀ c∈bs,0≤c∧c≤255):moreN n bs<4294967296:=zJD (zME hb (zJD h))
theorem zXI (pre:List (Nat×U64)):∀ c∈bytesW pre,0≤c∧c≤255:=by
 intro c hc
 obtain ⟨x,_,hx⟩:=List.mem_flatMap.1 hc
 obtain ⟨k,_,rfl⟩:=List.mem_map.1 hx
 omega
theorem zuA (x:Int) (s:Nat):∀ c∈putB x s,0≤c∧c≤255:=by
 intro c hc
 obtain ⟨k,_,rfl⟩:=List.mem_map.1 hc
 omega
structure OfS (w:World) (P T6 S7:Nat) (n:Nat) (c:World):Prop where
 res:c.heap[w.heap.size]? = some (.cells #[.int .u64 0,.slice none 0 0,.int .u32 0] 40 (0,0))
 tab:Tab P c
 t6:c.heap[T6]? = some (.cells #[.pointer (some ⟨P,0,none⟩)] 204 (0,0))
 s7:c.heap[S7]? = some (.cells #[.int .u32 (n:Nat)] 38 (0,0))
 grow:Grow w c
 lo:w.heap.size<P∧P<T6∧T6<S7
theorem OfS.later {w:World} {P T6 S7 n:Nat} {c c':World} (h:OfS w P T6 S7 n c) (hg:Grow c c'):OfS w P T6 S7 n c' :=
 ⟨hg.heap h.res,h.tab.grow hg,hg.heap h.t6,hg.heap h.s7,h.grow.grow hg,h.lo⟩
theorem OfS.set {w:World} {P T6 S7 n:Nat} {c:World} (h:OfS w P T6 S7 n c) (m:Nat):OfS w P T6 S7 m (c.setCell ⟨S7,0,none⟩ (.int .u32 (m:Nat))):=by
 obtain ⟨l1,l2,l3⟩:=h.lo
 exact ⟨(zm (p:=⟨S7,0,none⟩) _ (by simp;omega)).trans h.res,(zm (p:=⟨S7,0,none⟩) _ (by simp;omega)).trans h.tab,(zm (p:=⟨S7,0,none⟩) _ (by simp;omega)).trans h.t6,zOD _ h.s7,h.grow.setCell (p:=⟨S7,0,none⟩) (.inr (by simp;omega)) _,h.lo⟩
theorem zlB {w:World} {P T6 S7 n:Nat} {c:World} (h:OfS w P T6 S7 n c) (hn:n<4294967296) (bs:List Int) (hbig:bs.length≤1000000000) (hb:∀ x∈bs,0≤x∧x≤255) (A:Option Addr) (k:Nat) (hs:SliceR 1 (.slice A bs.length k) bs.length (u8s bs) c) :
    Calls Tryz.prog 134 #[.slice A bs.length k,.pointer (some ⟨T6,0,none⟩),.pointer (some ⟨S7,0,none⟩)] c fun e w'=>(∃ v,e=.returned v)∧w'=c.setCell ⟨S7,0,none⟩ (.int .u32 (moreN n bs:Nat)):=by
 have q6:=cell0 h.t6
 have q7:=cell0 h.s7
 have f7:=zM 0 h.s7
 have H:=LH h
 have Hs:=LH hs
 have HB:=LH hb
 clear h hs hb
 go_enter Tryz.func134,Tryz.ntmps134
 go_wp2_with fail
 refine (zZH P n hn bs hbig HB.out A k c H.out.tab Hs.out).mono ?_
 rintro e w' ⟨rfl,rfl⟩
 go_wp2
 go_end0
 exact ⟨⟨_,rfl⟩,rfl⟩
structure OfT (w:World) (P T6 S7 M9:Nat) (n:Nat) (session:Int) (zs:List Int) (A3:Option Addr) (c3:Nat) (F:Nat→Prop) (c:World):Prop where
 st:OfS w P T6 S7 n c
 man:c.heap[M9]? = some (.cells #[.int .u64 session,.slice A3 zs.length c3,.int .u32 0] 40 (0,0))
 zr:Foot (SliceR 1 (.slice A3 zs.length c3) zs.length (ints zs)) c F
 hF:∀ k,F k→S7<k∧k<M9
 lo:S7<M9
theorem OfT.later {w:World} {P T6 S7 M9 n:Nat} {session:Int} {zs:List Int} {A3:Option Addr} {c3:Nat} {F:Nat→Prop} {c c':World} (h:OfT w P T6 S7 M9 n session zs A3 c3 F c) (hg:Grow c c'):OfT w P T6 S7 M9 n session zs A3 c3 F c' :=
 ⟨h.st.later hg,hg.heap h.man,h.zr.grow hg,h.hF,h.lo⟩
theorem OfT.set {w:World} {P T6 S7 M9 n:Nat} {session:Int} {zs:List Int} {A3:Option Addr} {c3:Nat} {F:Nat→Prop} {c:World} (h:OfT w P T6 S7 M9 n session zs A3 c3 F c) (m:Nat):OfT w P T6 S7 M9 m session zs A3 c3 F (c.setCell ⟨S7,0,none⟩ (.int .u32 (m:Nat))) :=
 ⟨h.st.set m,(zm (p:=⟨S7,0,none⟩) _ (by have:=h.lo;simp;omega)).trans h.man,h.zr.keep ((Keep.refl (fun j=>j=S7) c).setCell (p:=⟨S7,0,none⟩) (.inl rfl) _) (fun k hk e=>by have:=(h.hF k hk).1;omega),h.hF,h.lo⟩
theorem zI {w:World} {g T:Nat} {a0 a1 a2:Value} (h:w.heap[g]? = some (.cells #[a0,a1,a2] T (0,0))):w.cell? ⟨g,0,none⟩=some a0∧w.cell? ⟨g,1,none⟩=some a1∧w.cell? ⟨g,2,none⟩=some a2∧∀ o,w.frozen? ⟨g,o,none⟩=false :=
 ⟨World.news_of_block h 0 _ rfl,World.news_of_block h 1 _ rfl,World.news_of_block h 2 _ rfl,fun o=>zM o h⟩
theorem zNE {w0 w:World} {g T:Nat} {a0 a1 a2:Value} (n0 n1 n2:Value) (hg:Grow w0 w) (hge:w0.heap.size≤g) (h:w.heap[g]? = some (.cells #[a0,a1,a2] T (0,0))) :
    (((w.setCell ⟨g,0,none⟩ n0).setCell ⟨g,1,none⟩ n1).setCell ⟨g,2,none⟩ n2).heap[g]? = some (.cells #[n0,n1,n2] T (0,0))∧Grow w0 (((w.setCell ⟨g,0,none⟩ n0).setCell ⟨g,1,none⟩ n1).setCell ⟨g,2,none⟩ n2):=by
 refine ⟨?_,(((hg.setCell (p:=⟨g,0,none⟩) (.inr hge) _).setCell (p:=⟨g,1,none⟩) (.inr hge) _).setCell (p:=⟨g,2,none⟩) (.inr hge) _)⟩
 simp only [World.setCell,Array.getElem?_modify]
 simp [h]
def arenaB (a:List (List Int)):List Int:=bytesW (upto (fun k=>(k,wat a.flatten k)) a.flatten.length)
theorem zuE (a:List (List Int)):(arenaB a).length=8*a.flatten.length:=by unfold arenaB;rw [zz,zhA];omega
theorem zlC (a:List (List Int)):∀ c∈arenaB a,0≤c∧c≤255:=zXI _
theorem zdF (a:List (List Int)) (ho:OkA a) (hfl:a.flatten.length≤1000000) (A:Option Addr) (c:Nat) (w:World) (hR:RowsR .u64 a (.slice A a.length c) w) :
    Calls Tryz.prog 138 #[.slice A a.length c] w fun e w'=>∃ v,e=.returned v∧Grow w w'∧w'.ownsRow w.heap.size 5 1 v (arenaB a).length (u8s (arenaB a)):=zaF a ho hfl A c w hR
def maniB (session:Int) (a:List (List Int)):List Int:=putB session 8++(szs a).flatMap (fun x=>putB x 2)++arenaB a
def sumP (session:Int) (a:List (List Int)):Nat:=moreN 0 (maniB session a)
def MPost (session:Int) (a:List (List Int)) (w:World) (e:Ending) (w':World):Prop :=
 ∃ A c,e=.returned (.tuple #[.agg #[.int .u64 session,.slice A (szs a).length c,.int .u32 (sumP session a:Nat)],.int .u16 0])∧Grow w w'∧∃ F,Foot (SliceR 1 (.slice A (szs a).length c) (szs a).length (ints (szs a))) w' F∧∀ k,F k→w.heap.size≤k
theorem zeF (session:Int) (h0:0≤session) (h1:session≤18446744073709551615) (a:List (List Int)) (ho:OkA a) (hfit:fitsB (szs a)=true) (hfl:a.flatten.length≤1000000) (A:Option Addr) (c:Nat) (w:World) (hR:RowsR .u64 a (.slice A a.length c) w) :
    Calls Tryz.prog 61 #[.int .u64 session,.slice A a.length c] w (MPost session a w):=by
 have hg0:=(Keep.refl NoB w).alloc (.cells #[.int .u64 0,.slice none 0 0,.int .u32 0] 40)
 have HM:=LH (heap_alloc_new w (.cells #[.int .u64 0,.slice none 0 0,.int .u32 0] 40))
 have HG:=LH hg0
 have H:=LH hR
 have HO:=LH ho
 have HF:=LH hfit
 clear hR ho hg0 hfit
 go_enter Tryz.func61,Tryz.ntmps61
 go_wp2_with fail
 refine (zQD a _ _ (H.out.grow HG.out) HO.out).mono ?_
 rintro e w1 ⟨rfl,hg⟩
 rw [HF.out]
 replace HM:=LH (hg.heap HM.out)
 replace HG:=LH (HG.out.grow hg)
 clear hg
 go_wp2_with fail
 refine (zfG w1).mono ?_
 rintro e w2 ⟨rfl,hg,ht⟩
 have hM1:=(gE HM.out).1
 have hsz:=hg.size
 have hT1:=(gE ht).1
 have hd2:=zU w2 (.cells #[.pointer (some ⟨w1.heap.size,0,none⟩)] 204) (.cells #[.int .u32 0] 38)
 have HS:Hid (OfS w w1.heap.size w2.heap.size (w2.heap.size+1) 0 ((w2.alloc (.cells #[.pointer (some ⟨w1.heap.size,0,none⟩)] 204)).alloc (.cells #[.int .u32 0] 38))) :=
  LH ⟨Grow.heap hd2.2.2 (hg.heap HM.out),ht.grow hd2.2.2,hd2.1,hd2.2.1,(HG.out.grow hg).grow hd2.2.2,hM1,hT1,by omega⟩
 clear hg ht hd2 hM1 hsz hT1
 go_wp2_with fail
 refine (zuB a _ _ (H.out.grow HS.out.grow) HO.out.segs).mono ?_
 rintro e w3 ⟨A3,c3,rfl,hg,hoz⟩
 have hg9:=(Keep.refl NoB w3).alloc (.cells #[.int .u64 session,.slice A3 (szs a).length c3,.int .u32 0] 40)
 have hS7:=(gE (HS.out.later hg).s7).1
 have HT:Hid (OfT w w1.heap.size w2.heap.size (w2.heap.size+1) w3.heap.size 0 session (szs a) A3 c3 (fun k=>(Value.slice A3 (szs a).length c3).ownBlock=some k) (w3.alloc (.cells #[.int .u64 session,.slice A3 (szs a).length c3,.int .u32 0] 40))) :=
  LH ⟨(HS.out.later hg).later hg9,heap_alloc_new w3 _,(Foot.of_own hoz).grow hg9,(fun k hk=>by have h1:=(hoz.lt k hk).1;have h2:=(gE HS.out.s7).1;have h3:=(hoz.lt k hk).2;omega),hS7⟩
 clear hg hoz hg9 hS7 HS
 go_wp2_with fail
 refine (zJB session 8 _ h0 h1 (by omega) (by omega)).mono ?_
 rintro e w4 ⟨A4,c4,rfl,hg,hob⟩
 replace HT:=LH (HT.out.later hg)
 have HB4:=LH (SliceR.of_own hob)
 have hlen8:=zX session 8
 clear hg hob
 go_wp2_with fail
 refine (zlB HT.out.st (by omega) (putB session 8) (by omega) (zuA _ _) A4 c4 HB4.out).mono ?_
 rintro e w5 ⟨⟨v5,rfl⟩,rfl⟩
 replace HT:=LH (HT.out.set (moreN 0 (putB session 8)))
 clear HB4 hlen8
 generalize w4.setCell ⟨w2.heap.size+1,0,none⟩ (.int .u32 (moreN 0 (putB session 8):Nat))=w6 at HT ⊢
 obtain ⟨m0,m1,m2,mf⟩:=zI HT.out.man
 have hseg:(szs a).length≤16:=by
  have:=HF.out
  unfold fitsB at this
  simp only [decide_eq_true_eq] at this
  exact this.2.1
 go_wp2
 clear m0 m1 m2 mf
 go_loopw [29] (fun v wr=>∃ k:Nat,k≤(szs a).length∧v=.int .i64 k∧Hid (OfT w w1.heap.size w2.heap.size (w2.heap.size+1) w3.heap.size (moreN 0 (putB session 8++((szs a).take k).flatMap (fun x=>putB x 2))) session (szs a) A3 c3 (fun k=>(Value.slice A3 (szs a).length c3).ownBlock=some k) wr)) (fun v _=>(szs a).length-(intOf v).toNat)
 case atStart=>exact ⟨0,by omega,rfl,by simpa using HT⟩
 case round =>
  clear HT
  obtain ⟨k,hk,rfl,HT⟩:=hrel
  have hbs:∀ x∈putB session 8++((szs a).take k).flatMap (fun x=>putB x 2),0≤x∧x≤255:=by
   intro x hx
   rcases List.mem_append.1 hx with e | e
   ·exact zuA _ _ x e
   ·obtain ⟨y,_,hy⟩:=List.mem_flatMap.1 e
    exact zuA _ _ x hy
  have hml:=zcF (n:=0) (by omega) hbs
  have Hbs:=LH hbs
  clear hbs
  by_cases hlt:k<(szs a).length
  ·have hlt':(k:Int)<(szs a).length:=by omega
   have hw:IntKind.i64.wrap ((k:Int)+1)=(k:Int)+1:=IntWalk.i64_in _ (by omega)
   obtain ⟨ad,rfl,q1⟩:=SliceR.int_at (k:=.i64) HT.out.zr.now k hlt
   have hx:=zJF HO.out _ (List.getElem_mem hlt)
   have hx0:=hx.1
   have hx1:=hx.2
   have Hsu:Hid (putB session 8++((szs a).take (k+1)).flatMap (fun x=>putB x 2)=(putB session 8++((szs a).take k).flatMap (fun x=>putB x 2))++putB (szs a)[k] 2):=LH (by
    rw [List.take_succ_eq_append_getElem hlt,List.flatMap_append,List.append_assoc]
    simp only [List.flatMap_cons,List.flatMap_nil,List.append_nil])
   clear hx
   go_wp2_with fail
   refine (zJB (szs a)[k] 2 _ hx0 (by omega) (by omega) (by omega)).mono ?_
   rintro e w7 ⟨A7,c7,rfl,hg,hob⟩
   replace HT:=LH (HT.out.later hg)
   have HB7:=LH (SliceR.of_own hob)
   have hlen2:=zX (szs a)[k] 2
   clear hg hob q1
   go_wp2_with fail
   refine (zlB HT.out.st hml (putB (szs a)[k] 2) (by omega) (zuA _ _) A7 c7 HB7.out).mono ?_
   rintro e w8 ⟨⟨v8,rfl⟩,rfl⟩
   rw [zkC,← Hsu.out]
   replace HT:=LH (HT.out.set (moreN 0 (putB session 8++((szs a).take (k+1)).flatMap (fun x=>putB x 2))))
   clear HB7 hlen2
   go_wp2
   go_roundw
   case rel=>exact ⟨k+1,by omega,by go_num,HT⟩
   case measure=>simp [intOf];omega
  ·obtain rfl:k=(szs a).length:=by omega
   have hlt':¬ (((szs a).length:Int)<(szs a).length):=by omega
   rw [List.take_length] at HT hml
   go_wp2_with fail
   refine (zdF a HO.out hfl A c _ (H.out.grow HT.out.st.grow)).mono ?_
   rintro e w7 ⟨v7,rfl,hg,hob⟩
   replace HT:=LH (HT.out.later hg)
   obtain ⟨A7,c7,rfl,_⟩:=zJ hob
   have HB7:=LH (SliceR.of_own hob)
   clear hg hob
   have hbl:(arenaB a).length≤1000000000:=by rw [zuE];omega
   go_wp2_with fail
   refine (zlB HT.out.st hml (arenaB a) hbl (zlC a) A7 c7 HB7.out).mono ?_
   rintro e w8 ⟨⟨v8,rfl⟩,rfl⟩
   rw [zkC]
   have hsum:moreN 0 (putB session 8++(szs a).flatMap (fun x=>putB x 2)++arenaB a)=sumP session a:=rfl
   rw [hsum]
   replace HT:=LH (HT.out.set (sumP session a))
   clear HB7 hbl hsum hml
   generalize w7.setCell ⟨w2.heap.size+1,0,none⟩ (.int .u32 (sumP session a:Nat))=cw at HT ⊢
   obtain ⟨m0,m1,m2,mf⟩:=zI HT.out.man
   obtain ⟨r0,r1,r2,rf⟩:=zI HT.out.st.res
   have q7:=cell0 HT.out.st.s7
   have hlo:=HT.out.st.lo
   have hlo2:=HT.out.lo
   have hn1:w3.heap.size≠w.heap.size:=by omega
   have hn2:w.heap.size≠w3.heap.size:=by omega
   have HR2:=LH ((zm (w:=cw) (p:=⟨w3.heap.size,2,none⟩) (.int .u32 (sumP session a:Nat)) (by simpa using hn2)).trans HT.out.st.res)
   have HG2:=LH (HT.out.st.grow.setCell (p:=⟨w3.heap.size,2,none⟩) (.inr (by simp;omega)) (.int .u32 (sumP session a:Nat)))
   have HST:=LH (zNE (.int .u64 session) (.slice A3 (szs a).length c3) (.int .u32 (sumP session a:Nat)) HG2.out (Nat.le_refl _) HR2.out)
   have HZ2:Hid (∃ F,Foot (SliceR 1 (.slice A3 (szs a).length c3) (szs a).length (ints (szs a))) ((((cw.setCell ⟨w3.heap.size,2,none⟩ (.int .u32 (sumP session a:Nat))).setCell ⟨w.heap.size,0,none⟩ (.int .u64 session)).setCell ⟨w.heap.size,1,none⟩ (.slice A3 (szs a).length c3)).setCell ⟨w.heap.size,2,none⟩ (.int .u32 (sumP session a:Nat))) F∧∀ k,F k→w.heap.size≤k):=by
    refine LH ⟨_,HT.out.zr.keep (((((Keep.refl (fun j=>j=w3.heap.size∨j=w.heap.size) cw).setCell (p:=⟨w3.heap.size,2,none⟩) (.inl (.inl rfl)) _).setCell (p:=⟨w.heap.size,0,none⟩) (.inl (.inr rfl)) _).setCell (p:=⟨w.heap.size,1,none⟩) (.inl (.inr rfl)) _).setCell (p:=⟨w.heap.size,2,none⟩) (.inl (.inr rfl)) _) (fun k hk e=>?_),fun k hk=>?_⟩
    ·have:=HT.out.hF k hk
     omega
    ·have:=HT.out.hF k hk
     omega
   clear hlo hlo2
   go_wp2
   (try simp only [Exit.inBlock,Exit.then])
   obtain ⟨s0,s1,s2,sf⟩:=zI HST.out.1
   refine bodyPost_ret (v:=.tuple #[.agg #[.int .u64 session,.slice A3 (szs a).length c3,.int .u32 (sumP session a:Nat)],.int .u16 0]) ?_ rfl ⟨A3,c3,rfl,HST.out.2,HZ2.out⟩
   rw [results_cell_tmp rfl];go_simp
theorem zbB (n m:Int) (w:World) (h:1≤n) (h2:n≤m) :
    Calls Tryz.prog 130 #[.int .i64 n,.int .i64 m] w fun e w'=>e=.returned (.bool true)∧w=w':=by
 go_enter Tryz.func130,Tryz.ntmps130
 go_wp2
 go_ret
 exact ⟨by simp,rfl⟩
structure OkC (win back retry quota:Int):Prop where
 win1:1≤win
 win2:win≤64
 back1:1≤back
 back2:back≤64
 retry1:1≤retry
 retry2:retry≤1000
 quota:0≤quota
theorem zfF (win back retry quota:Int) (h:OkC win back retry quota) (w:World) :
    Calls Tryz.prog 59 #[.agg #[.int .i64 win,.int .i64 back,.int .i64 retry,.int .i64 quota]] w fun e w'=>e=.returned (.bool true)∧Grow w w':=by
 have HG:=LH ((Keep.refl NoB w).alloc (.cells #[.int .i64 win,.int .i64 back,.int .i64 retry,.int .i64 quota] 26))
 have hq:=h.quota
 have H:=LH h
 clear h
 go_enter Tryz.func59,Tryz.ntmps59
 go_wp2_with fail
 refine (zbB win 64 _ H.out.win1 H.out.win2).mono ?_
 rintro e w1 ⟨rfl,rfl⟩
 go_wp2_with fail
 refine (zbB back 64 _ H.out.back1 H.out.back2).mono ?_
 rintro e w1 ⟨rfl,rfl⟩
 go_wp2_with fail
 refine (zbB retry 1000 _ H.out.retry1 H.out.retry2).mono ?_
 rintro e w1 ⟨rfl,rfl⟩
 go_wp2
 go_ret
 exact ⟨rfl,HG.out⟩
theorem zN {l:List Int} (h:fitsB l=true):1≤l.length∧l.length≤16∧(∀ x∈l,0≤x)∧l.sum≤4096:=by
 unfold fitsB at h
 simp only [decide_eq_true_eq] at h
 exact ⟨h.1,h.2.1,h.2.2.2.1,h.2.2.2.2⟩
theorem zeA {l:List Int} (h:∀ x∈l,0≤x):0≤l.sum:=by
 simpa using zx h 0
theorem zcB {l:List Int} (h:∀ x∈l,0≤x):∀ x∈l,x≤l.sum:=by
 induction l with
 | nil=>intro x hx;cases hx
 | cons y l ih =>
  intro x hx
  have h0:=h y (List.mem_cons_self ..)
  have h1:∀ x∈l,0≤x:=fun x hx=>h x (List.mem_cons_of_mem _ hx)
  have h2:0≤l.sum:=zeA h1
  rw [List.sum_cons]
  rcases List.mem_cons.1 hx with rfl | hx
  ·omega
  ·have:=ih h1 x hx;omega
theorem zmC (session:Int) (sum:Nat) (A:Option Addr) (c:Nat) (l:List Int) (w:World) (h:SliceR 1 (.slice A l.length c) l.length (ints l) w) (hf:fitsB l=true) :
    Calls Tryz.prog 139 #[.agg #[.int .u64 session,.slice A l.length c,.int .u32 (sum:Nat)]] w fun e w'=>e=.returned (.bool true)∧Grow w w':=by
 have HG:=LH ((Keep.refl NoB w).alloc (.cells #[.int .u64 session,.slice A l.length c,.int .u32 (sum:Nat)] 40))
 have H:=LH h
 have HF:=LH hf
 have HB:Hid (∀ x∈l,-9223372036854775808≤x∧x≤9223372036854775807):=LH (by
  intro x hx
  obtain ⟨_,_,h3,h4⟩:=zN hf
  have:=h3 x hx
  have:=zcB h3 x hx
  omega)
 clear h hf
 go_enter Tryz.func139,Tryz.ntmps139
 go_wp2_with fail
 refine (zKC A c l _ (H.out.grow HG.out) HB.out).mono ?_
 rintro e w1 ⟨rfl,rfl⟩
 rw [HF.out]
 go_wp2
 go_ret
 exact ⟨rfl,HG.out⟩
theorem zPA (session:Int) (sum:Nat) (A:Option Addr) (c:Nat) (l:List Int) (w:World) (h:SliceR 1 (.slice A l.length c) l.length (ints l) w) (hf:fitsB l=true) :
    Calls Tryz.prog 102 #[.agg #[.int .u64 session,.slice A l.length c,.int .u32 (sum:Nat)]] w fun e w'=>e=.returned (.int .i64 l.sum)∧Grow w w':=by
 have HG:=LH ((Keep.refl NoB w).alloc (.cells #[.int .u64 session,.slice A l.length c,.int .u32 (sum:Nat)] 40))
 have H:=LH h
 have HF:=LH hf
 clear h hf
 go_enter Tryz.func102,Tryz.ntmps102
 go_wp2_with fail
 refine (zmC session sum A c l _ (H.out.grow HG.out) HF.out).mono ?_
 rintro e w1 ⟨rfl,hg⟩
 have HM:=LH (hg.heap (heap_alloc_new w (.cells #[.int .u64 session,.slice A l.length c,.int .u32 (sum:Nat)] 40)))
 obtain ⟨m0,m1,m2,mf⟩:=zI HM.out
 replace HG:=LH (HG.out.grow hg)
 clear hg
 obtain ⟨hl1,hl2,hl3,hl4⟩:=zN HF.out
 have HL3:=LH hl3
 clear hl3
 go_wp2
 clear m0 m1 m2 mf
 go_loopw [3,12] (fun s v wr=>∃ k:Nat,k≤l.length∧v=.int .i64 k∧s=.int .i64 (l.take k).sum∧w1=wr) (fun s v _=>l.length-(intOf v).toNat)
 case atStart=>exact ⟨0,by omega,rfl,by simp,rfl⟩
 case round =>
  obtain ⟨k,hk,rfl,rfl,rfl⟩:=hrel
  by_cases hlt:k<l.length
  ·have hlt':(k:Int)<l.length:=by omega
   have hw:IntKind.i64.wrap ((k:Int)+1)=(k:Int)+1:=IntWalk.i64_in _ (by omega)
   obtain ⟨ad,rfl,q1⟩:=SliceR.int_at (k:=.i64) (H.out.grow HG.out) k hlt
   have hx0:=HL3.out _ (List.getElem_mem hlt)
   have h1:=zx HL3.out k
   have h2:=zx HL3.out (k+1)
   have h0:0≤(l.take k).sum:=zeA (fun x hx=>HL3.out x (List.mem_of_mem_take hx))
   have h3:=zFA hlt
   have hw2:IntKind.i64.wrap ((l.take k).sum+l[k])=(l.take k).sum+l[k]:=IntWalk.i64_in _ (by omega)
   go_wp2
   go_roundw
   case rel=>exact ⟨k+1,by omega,by go_num,by rw [h3],trivial⟩
   case measure=>simp [intOf];omega
  ·obtain rfl:k=l.length:=by omega
   have hlt':¬ ((l.length:Int)<l.length):=by omega
   rw [List.take_length]
   go_wp2
   go_ret
   exact ⟨rfl,HG.out⟩
def chunksN (l:List Int):Nat:=(l.sum.toNat+7)/8
def pagesN (l:List Int):Nat:=(l.length+3)/4
theorem zd (session:Int) (sum:Nat) (A:Option Addr) (c:Nat) (l:List Int) (w:World) (h:SliceR 1 (.slice A l.length c) l.length (ints l) w) (hf:fitsB l=true) :
    Calls Tryz.prog 64 #[.agg #[.int .u64 session,.slice A l.length c,.int .u32 (sum:Nat)]] w fun e w'=>e=.returned (.int .i64 (chunksN l:Nat))∧Grow w w':=by
 have HG:=LH ((Keep.refl NoB w).alloc (.cells #[.int .u64 session,.slice A l.length c,.int .u32 (sum:Nat)] 40))
 have H:=LH h
 have HF:=LH hf
 clear h hf
 go_enter Tryz.func64,Tryz.ntmps64
 go_wp2_with fail
 refine (zPA session sum A c l _ (H.out.grow HG.out) HF.out).mono ?_
 rintro e w1 ⟨rfl,hg⟩
 replace HG:=LH (HG.out.grow hg)
 clear hg
 obtain ⟨hl1,hl2,hl3,hl4⟩:=zN HF.out
 have h0:0≤l.sum:=zeA hl3
 clear hl3
 go_wp2_with fail
 refine (znD l.sum 8 _ (by omega) (by omega) (by omega) (by omega)).mono ?_
 rintro e w2 ⟨rfl,rfl⟩
 have he:(l.sum+8-1)/8=(chunksN l:Nat):=by unfold chunksN;omega
 rw [he]
 go_wp2
 go_ret
 exact ⟨rfl,HG.out⟩
end Go.Proofs.YtfkcpaahdlkcdaaGreat
namespace Go.Proofs.YtfkcpaahdlkcdaaGreat
open Go.RowKit Go.Shelf
attribute [local go_sem] Oper.semAt_some
def chN (m each:Nat):Nat:=(m+each-1)/each
def chL (m each k:Nat):Nat:=min each (m-k*each)
def chV (A:Option Addr) (m each k:Nat):Value:=.slice (A.map fun ad=>ad.add (k*each)) (chL m each k) (chL m each k)
def pieceL (l:List Int) (each k:Nat):List Int:=(l.drop (k*each)).take each
theorem zHA (l:List Int) (each k:Nat):(pieceL l each k).length=chL l.length each k:=by simp [pieceL,chL]
theorem SliceR.piece {A:Option Addr} {c:Nat} {l:List Int} {f:Int→Value} {w:World} (h:SliceR 1 (.slice A l.length c) l.length (l.map f) w) (each k:Nat):SliceR 1 (chV A l.length each k) (pieceL l each k).length ((pieceL l each k).map f) w:=by
 obtain ⟨A',c',e,hc,hl,hA,hq⟩:=h
 injection e with e1 e2 e3
 subst e1;subst e3
 have hpl:=zHA l each k
 refine ⟨_,_,by rw [hpl];rfl,by rw [hpl];exact Nat.le_refl _,by simp,?_,?_⟩
 ·intro h0
  have:A=none:=by cases A with
   | none=>rfl
   | some ad=>simp at h0
  have:=hA this
  unfold chL
  omega
 ·intro j u hu
  have hj:j<(pieceL l each k).length:=by have:=(List.getElem?_eq_some_iff.1 hu).1;simpa using this
  have hu2:(l.map f)[k*each+j]? = some u:=by
   rw [← hu]
   rw [zHA] at hj
   unfold chL at hj
   have hj1:j<each:=by omega
   simp [pieceL,List.getElem?_take,hj1]
  obtain ⟨ad,rfl,hcell⟩:=hq _ _ hu2
  exact ⟨_,rfl,by rw [Addr.add_add];exact hcell⟩
structure KeepB (B:Nat) (X:Nat→Prop) (a c:World):Prop where
 below:Below B a c
 same:∀ k,X k→c.heap[k]? = a.heap[k]?
theorem KeepB.refl (B:Nat) (X:Nat→Prop) (a:World):KeepB B X a a:=⟨Below.refl _ _,fun _ _=>rfl⟩
theorem KeepB.trans {B:Nat} {X:Nat→Prop} {a b c:World} (h:KeepB B X a b) (k:KeepB B X b c):KeepB B X a c:=⟨h.below.trans k.below,fun i hi=>(k.same i hi).trans (h.same i hi)⟩
theorem KeepB.drew {B:Nat} {X:Nat→Prop} (a:World):KeepB B X a a.drew:=⟨(Below.refl _ _).drew,fun _ _=>rfl⟩
theorem KeepB.put {B:Nat} {X:Nat→Prop} {w:World} (hn:B≤w.heap.size) (hX:∀ k,X k→k<w.heap.size) (W:World) (l:Nat) (o o':Obj) (hl:w.heap.size≤l) (h:W.heap[l]? = some o) (hc:o.isCells=false) (hw:o.isWalk=false):KeepB B X W (W.putObj l o') :=
 ⟨belowK_b hn W l o o' hl h hc hw,fun k hk=>(grownBy_putObj' W l o').block k (by have:=(gE h).1;have:=hX k hk;omega) (fun e=>by cases e;have:=hX _ hk;omega)⟩
theorem KeepB.set {B:Nat} {X:Nat→Prop} {a c:World} (h:KeepB B X a c) {g:Nat} (hg:B≤g) (hX:∀ k,X k→k≠g) (u:Value):KeepB B X a (c.setCell ⟨g,0,none⟩ u) :=
 ⟨h.below.setCell (p:=⟨g,0,none⟩) hg u,fun k hk=>(Below.heap_setCell c ⟨g,0,none⟩ u k (hX k hk)).trans (h.same k hk)⟩
theorem zgF {m each k:Nat} (he:1≤each):k<chN m each↔k*each<m:=by
 unfold chN
 rw [Nat.lt_iff_add_one_le,Nat.le_div_iff_mul_le (by omega),Nat.succ_mul]
 omega
theorem zhF (A:Option Addr) (n c:Nat) (each:Int) (he:1≤each) (w:World) :
    Calls Tryz.prog 169 #[.slice A n c,.int .i64 each] w fun e w'=>e=.returned (.func (.func 220) #[] #[.pointer (some ⟨w.heap.size,0,none⟩),.pointer (some ⟨w.heap.size+1,0,none⟩)])∧w'=(w.alloc (.cells #[.slice A n c] 23)).alloc (.cells #[.int .i64 each] 3):=by
 go_enter Tryz.func169,Tryz.ntmps169
 go_wp2
 go_ret
 exact ⟨rfl,rfl⟩
theorem zaH (F:Fence) (n:Nat) (h7:F.fn 220) (hro:F.round=none) (hn:1≤n) (l Bs Bn:Nat) (m each:Nat) (he:1≤each) (he2:each≤64) (hm:m≤100000000) (A:Option Addr) (c:Nat) (hmc:m≤c) (hA:A=none→c=0) (Kp:World→World→Prop) (hKt:∀ {a b c:World},Kp a b→Kp b c→Kp a c) (hKd:∀ W,Kp W W.drew) (w0:World)
    (hKs:∀ W,Kp w0 W→W.cell? ⟨Bs,0,none⟩=some (.slice A m c)∧W.cell? ⟨Bn,0,none⟩=some (.int .i64 each)) (J Jx:List Nat→World→Prop) (B0:Nat) (hJ:AbidesFrom B0 J)
    (hY:∀ pre x W,J pre W→pre.length<chN m each→YieldAt F (n-1) Tryz.prog l #[chV A m each x] W fun e W' =>
     (e=.returned (.bool true)∧J (pre++[x]) W'∧Kp W W')∨(e=.returned (.bool false)∧Jx (pre++[x]) W'))
    (W:World) (hW:Kp w0 W) (h0:J [] W) :
    CallsIn F n Tryz.prog 220 #[.func (.yield l) #[] #[],.pointer (some ⟨Bs,0,none⟩),.pointer (some ⟨Bn,0,none⟩)] W fun e W'=>(∃ v,e=.returned v) ∧
     ((∃ ys,ys=upto (fun k=>k) (chN m each)∧J ys W')∨(∃ pre,(∃ k,k≤chN m each∧pre=upto (fun k=>k) k)∧Jx pre W')):=by
 have u0:Tryz.prog.underlying 23=some (.slice 5):=zW
 refine callsIn_of_wp Tryz.func220 rfl h7 ?_ hro
 simp only [Tryz.ntmps220,List.size_toArray,List.length_cons,List.length_nil,Nat.reduceAdd,Nat.reduceSub,Array.replicate_succ,Array.replicate_zero,List.push_toArray,List.append_toArray,List.nil_append,List.cons_append]
 gi_wp2
 gi_loopw [4] (fun p wr=>∃ k K:Nat,k≤chN m each∧K=k*each∧p=.int .i64 (K:Nat)∧Hid (J (upto (fun k=>k) k) wr∧Kp w0 wr)) (fun p _=>(chN m each+1)*each-(intOf p).toNat)
 case atStart=>exact ⟨0,0,Nat.zero_le _,by simp,rfl,h0,hW⟩
 case round =>
  obtain ⟨k,K,hk,hK,rfl,HJ⟩:=hrel
  obtain ⟨q1,q2⟩:=hKs wr HJ.out.2
  by_cases hlt:k<chN m each
  ·have hke:k*each<m:=(zgF he).1 hlt
   obtain ⟨ad,rfl⟩:∃ ad,A=some ad:=by
    cases A with
    | none=>have:=hA rfl;omega
    | some ad=>exact ⟨ad,rfl⟩
   have hYr:=hY _ k wr.drew (hJ _ _ _ none HJ.out.1 ⟨rfl,rfl,rfl,Nat.le_refl _,fun _ _ _=>rfl⟩ (fun r e=>by cases e)) (by rw [zhA];exact hlt)
   obtain ⟨fn,tmps,assign,body,hy,hRR⟩:=hYr
   have HRR:=LH hRR
   have HKS:=LH hKs
   unfold chV chL at hy
   rw [← hK] at hy hke
   dsimp only [Option.map] at hy
   have HKT:=LH (show ∀ W,Kp wr.drew W→Kp w0 W from fun W h=>hKt (hKt HJ.out.2 (hKd wr)) h)
   clear hRR hKs hY h0 hKt hKd hJ
   have hK1:(K:Int)<m:=by omega
   have hne:¬ (c=K):=by omega
   have hin:0≤(K:Int)∧(K:Int)≤m:=by omega
   obtain ⟨L,hL⟩:∃ L:Nat,L=min each (m-K):=⟨_,rfl⟩
   rw [← hL] at hy
   have hw0:IntKind.i64.wrap ((K:Int)+L)=(K:Int)+L:=IntWalk.i64_in _ (by omega)
   have HK:=LH hK
   have HL:=LH hL
   clear hK hL
   have HKN:=LH (show (k+1)*each=K+each by rw [HK.out,Nat.succ_mul])
   have hL0:Hid ((if m-K<each then ((m-K:Nat):Int) else (each:Int))=(L:Nat)):=LH (by have:=HL.out;split <;> omega)
   have hLne:¬ (L=0):=by have:=HL.out;omega
   have hin2:0≤(K:Int)+L∧(K:Int)+L≤c:=by have:=HL.out;omega
   have hwn:IntKind.i64.wrap ((K:Int)+each)=(K:Int)+each:=IntWalk.i64_in _ (by omega)
   clear u0 hin
   have hin:0≤(K:Int)∧(K:Int)≤m:=by omega
   gi_wp2
   gi_region
   all_goals rw [hL0.out]
   all_goals gi_wp2
   all_goals
    refine HRR.out.mono ?_
    rintro e W3 (⟨rfl,hJ3,hk3⟩ | ⟨rfl,hJx3⟩)
    ·have HJ3:Hid (J (upto (fun k=>k) (k+1)) W3∧Kp w0 W3):=LH ⟨by rw [zWA];exact hJ3,HKT.out _ hk3⟩
     obtain ⟨p1,p2⟩:=HKS.out _ HJ3.out.2
     clear hJ3 hk3 q1 q2
     gi_wp2
     go_roundw
     case rel=>exact ⟨k+1,K+each,by omega,HKN.out.symm,by go_num,HJ3⟩
     case measure=>simp [intOf];have:=HKN.out;have:=zgF (m:=m) (k:=k) he;have h9:(k+1)*each≤chN m each*each:=Nat.mul_le_mul_right _ hlt;rw [Nat.succ_mul (chN m each)];omega
    ·have HX:=LH hJx3
     clear hJx3
     gi_wp2
     refine bodyPost_ret (results_none rfl _ _ _) rfl ?_
     exact ⟨⟨_,rfl⟩,.inr ⟨_,⟨k+1,hlt,(zWA _ _).symm⟩,HX.out⟩⟩
  ·obtain rfl:k=chN m each:=by omega
   have hke:¬ (chN m each*each<m):=fun h=>by have:=(zgF he).2 h;omega
   have hke':¬ ((K:Int)<m):=by omega
   have HJ2:=LH HJ.out.1
   clear HJ
   gi_wp2
   go_end0
   exact ⟨⟨_,rfl⟩,.inl (by simpa using HJ2.out)⟩
theorem ziF (F:Fence) (n:Nat) (h7:F.fn 220) (hro:F.round=none) (hn:1≤n) (Bs Bn B:Nat) (m each:Nat) (he:1≤each) (he2:each≤64) (hm:m≤100000000) (A:Option Addr) (c:Nat) (hmc:m≤c) (hA:A=none→c=0) (w:World)
    (hBs:Boxed w Bs 23 (.slice A m c)) (hBn:Boxed w Bn 3 (.int .i64 each)) :
    SeqStopsK F n Tryz.prog 220 #[.pointer (some ⟨Bs,0,none⟩),.pointer (some ⟨Bn,0,none⟩)] (fun x:Nat=>#[chV A m each x]) (KeepB B (fun k=>k=Bs∨k=Bn)) (fun ys=>ys=upto (fun k=>k) (chN m each))
     (fun pre=>∃ k,k≤chN m each∧pre=upto (fun k=>k) k) (chN m each) w:=fun l J Jx W hW hJ _ hY h0 =>
 zaH F n h7 hro hn l Bs Bn m each he he2 hm A c hmc hA (KeepB B (fun k=>k=Bs∨k=Bn)) (fun h k=>h.trans k) KeepB.drew W
  (fun W' hK=>⟨Boxed.cell (t:=23) ((hK.same _ (.inl rfl)).trans ((hW.block Bs hBs.lt).trans hBs)),Boxed.cell (t:=3) ((hK.same _ (.inr rfl)).trans ((hW.block Bn hBn.lt).trans hBn))⟩) J Jx _ hJ hY W (KeepB.refl _ _ _) h0
end Go.Proofs.YtfkcpaahdlkcdaaGreat
namespace Go.Proofs.YtfkcpaahdlkcdaaGreat
open Go.RowKit Go.Shelf
attribute [local go_sem] Oper.semAt_some
theorem zDA (v:Value) (l:List Int) (w:World) (h:SliceR 1 v l.length (ints l) w) (hl:l.length≤1000000) :
    Calls Tryz.prog 178 #[v] w fun e w'=>∃ A c,e=.returned (.slice A l.length c)∧w'.ownsRow w.heap.size 3 1 (.slice A l.length c) l.length (ints l)∧Grow w w':=by
 have Hs:=LH ((h.grow ((Keep.refl _ _).alloc (.cells #[] 3))).src zAB (zZD l))
 have HL:=LH hl
 clear hl
 have hq:=zKE zAB
 obtain ⟨A,c,rfl,hlc,_,hA,_⟩:=h
 cases A with
 | none =>
  have h0:l=[]:=List.eq_nil_of_length_eq_zero (by have:=hA rfl;omega)
  subst h0
  go_enter Tryz.func178,Tryz.ntmps178
  go_wp2
  go_ret
  exact ⟨none,0,rfl,World.ownsRow_nil _ _ _ _,Keep.refl _ _⟩
 | some ad =>
  go_enter Tryz.func178,Tryz.ntmps178
  go_wp2_with (at_builtin;refine zL _ rfl _ _ 37 37 rfl w.heap.size 3 (.int .i64 0) 1 8 zAB zjB rfl (.slice (some ⟨w.heap.size,0,none⟩) 0 0) 0 [] rfl (.slice (some ad) l.length c) l.length (ints l) rfl ?_ ?c0 ?c1 ?c2 ?c3 ?c4;intro v' w' hap)
  case c0=>exact World.ownsRow_made w #[] 0 (Nat.le_refl _) (by simp [maxLen]) rfl
  case c1=>exact Hs.out
  case c2=>have:=HL.out;simp only [maxLen];omega
  case c3=>have:=HL.out;omega
  case c4=>simp
  have ho:=hap.own
  simp only [Nat.zero_add,List.nil_append] at ho
  have hg:=((Keep.refl NoB w).alloc (.cells #[] 3)).grown hap.grew (by simp [Value.ownBlock])
  clear hap
  obtain ⟨A,c2,rfl,_⟩:=zJ ho
  go_wp2
  go_ret
  exact ⟨_,_,rfl,ho,hg⟩
end Go.Proofs.YtfkcpaahdlkcdaaGreat
namespace Go.Proofs.YtfkcpaahdlkcdaaGreat
open Go.RowKit Go.Shelf
attribute [local go_sem] Oper.semAt_some
theorem zT {fn:Func} {p:Tmp} {ty:TypeId} (h:fn.results=#[.cell p ty]) (tmps:Array Value) (P:Program) (w:World) :
    (results fn tmps).run P w=((asAddr (tmps.getD p undef)).run P w).andThen fun a w₁=>(loadVar ty a).run P w₁:=by
 simp only [results,h]
 simp [Sem.run_bind,Result.andThen]
end Go.Proofs.YtfkcpaahdlkcdaaGreat
namespace Go.Proofs.YtfkcpaahdlkcdaaGreat
open Go.RowKit
def chunkP (a:List (List Int)) (i:Nat):List Int:=pieceL (arenaB a) 64 i
def pageP (l:List Int) (i:Nat):List Int:=pieceL l 4 i
theorem zYI (a:List (List Int)) (i:Nat):∀ c∈chunkP a i,0≤c∧c≤255:=fun c hc=>zlC a c (List.mem_of_mem_drop (List.mem_of_mem_take hc))
theorem znC (l:List Int) (i:Nat):(pageP l i).length≤4:=by unfold pageP;rw [zHA];unfold chL;omega
theorem zKD (a:List (List Int)):(szs a).sum=(a.flatten.length:Nat):=by
 induction a with
 | nil=>rfl
 | cons x a ih=>simp only [szs,List.map_cons,List.sum_cons,List.flatten_cons,List.length_append] at ih ⊢;omega
def makeB (n:Nat):List Int:=List.replicate ((n+7)/8) 0
def getB (bs:List Int) (i:Nat):Bool:=((bs.getD (i/8) 0).toNat).testBit (i%8)
def setB (bs:List Int) (i:Nat):List Int:=bs.set (i/8) (((bs.getD (i/8) 0).toNat ||| 2 ^ (i%8):Nat):Int)
def OkB (bs:List Int):Prop:=∀ c∈bs,0≤c∧c≤255
theorem zNB (n:Nat):(makeB n).length=(n+7)/8:=by simp [makeB]
theorem zyB (bs:List Int) (i:Nat):(setB bs i).length=bs.length:=by simp [setB]
theorem OkB.make (n:Nat):OkB (makeB n):=by
 intro c hc
 have:=List.eq_of_mem_replicate hc
 omega
theorem OkB.getD {bs:List Int} (h:OkB bs) (k:Nat):0≤bs.getD k 0∧bs.getD k 0≤255:=by
 by_cases hk:k<bs.length
 ·rw [List.getD_eq_getElem?_getD,List.getElem?_eq_getElem hk]
  exact h _ (List.getElem_mem hk)
 ·rw [List.getD_eq_getElem?_getD,List.getElem?_eq_none (by omega)]
  simp
theorem zaJ {a:Nat} (h:a<256) (r:Nat) (hr:r<8):a ||| 2 ^ r<256 :=
 Nat.or_lt_two_pow (n:=8) h (Nat.pow_lt_pow_right (by omega) hr)
theorem OkB.set {bs:List Int} (h:OkB bs) (i:Nat):OkB (setB bs i):=by
 intro c hc
 rcases List.mem_or_eq_of_mem_set hc with hc | rfl
 ·exact h c hc
 ·have:=h.getD (i/8)
  have:=zaJ (a:=(bs.getD (i/8) 0).toNat) (by omega) (i%8) (by omega)
  omega
theorem zrB (n i:Nat):getB (makeB n) i=false:=by
 unfold getB makeB
 rw [List.getD_eq_getElem?_getD,List.getElem?_replicate]
 split <;> simp
theorem zUB (bs:List Int) (i j:Nat):getB (setB bs i) j=((decide (j=i∧i/8<bs.length))||getB bs j):=by
 unfold getB setB
 by_cases hk:i/8<bs.length
 ·by_cases he:j/8=i/8
  ·rw [he,List.getD_eq_getElem?_getD,List.getElem?_set_self hk]
   simp only [Option.getD_some,Int.toNat_natCast,Nat.testBit_or,Nat.testBit_two_pow]
   by_cases hr:j%8=i%8
   ·have:j=i:=by omega
    subst this
    simp [hk]
   ·have:¬ (j=i):=by intro e;exact hr (by rw [e])
    have hr2:¬ (i%8=j%8):=fun e=>hr e.symm
    simp [this,hr2]
  ·have:¬ (j=i):=by intro e;exact he (by rw [e])
   rw [List.getD_eq_getElem?_getD,List.getElem?_set_ne (fun e=>he e.symm),← List.getD_eq_getElem?_getD]
   simp [this]
 ·rw [List.set_eq_of_length_le (by omega)]
  simp [hk]
theorem zzB (n:Nat) (hn:n≤65536) (w:World) :
    Calls Tryz.prog 66 #[.int .i64 n] w fun e w'=>∃ A c,e=.returned (.slice A (makeB n).length c)∧Grow w w'∧w'.ownsRow w.heap.size 5 1 (.slice A (makeB n).length c) (makeB n).length (u8s (makeB n)):=by
 obtain ⟨ib,hib,hb1,hb2,hb3⟩:∃ i,Tryz.prog.info? 5=some i∧i.zero=some (.int .u8 0)∧i.size=1∧i.bytes=1:=by
  have h:=zy
  cases hi:Tryz.prog.info? 5 with
  | none=>rw [hi] at h;cases h
  | some i =>
   rw [hi] at h
   simp only [Option.map_some,Option.some.injEq,Prod.mk.injEq] at h
   exact ⟨i,rfl,h.1,h.2.1,h.2.2⟩
 rcases Nat.eq_zero_or_pos n with h00 | hn0
 ·subst h00
  have hmin:min ((0:Nat):Int) 65536=0:=by omega
  go_enter Tryz.func66,Tryz.ntmps66
  go_wp2_with fail
  refine (zxB 0 _ (by omega)).mono ?_
  rintro e w1 ⟨rfl,rfl⟩
  generalize hm:(0+7)/8=m at *
  go_wp2_with (at_make;refine wpList_make_full _ rfl _ _ _ rfl w.heap.size 5 ib (.int .u8 0) 1 zW hib hb1 hb2 _ _ _ _ m rfl rfl rfl rfl (by rw [hb3];omega) (by simp [maxLen];omega) (Nat.le_refl _) ?_;intro w2 hown hgr)
  go_ret
  have h0:(madeCells (Value.int .u8 0).cells (m*1)).toList=u8s (List.replicate m 0):=by
   apply List.ext_getElem (by simp [u8s,madeCells,Value.cells])
   intro j h1 h2
   simp [u8s,madeCells,Value.cells,Nat.mod_one]
  rw [h0] at hown
  have hml:(makeB 0).length=m:=by rw [zNB];exact hm
  have hme:makeB 0=List.replicate m 0:=by unfold makeB;rw [hm]
  rw [hml,hme]
  exact ⟨_,m,rfl,(Keep.refl NoB w).grown hgr (by simp),hown⟩
 ·
  have hmin:min ((n:Nat):Int) 65536=n:=by omega
  go_enter Tryz.func66,Tryz.ntmps66
  go_wp2_with fail
  refine (zxB n _ (by omega)).mono ?_
  rintro e w1 ⟨rfl,rfl⟩
  generalize hm:(n+7)/8=m at *
  go_wp2_with (at_make;refine wpList_make_full _ rfl _ _ _ rfl w.heap.size 5 ib (.int .u8 0) 1 zW hib hb1 hb2 _ _ _ _ m rfl rfl rfl rfl (by rw [hb3];omega) (by simp [maxLen];omega) (Nat.le_refl _) ?_;intro w2 hown hgr)
  go_ret
  have h0:(madeCells (Value.int .u8 0).cells (m*1)).toList=u8s (List.replicate m 0):=by
   apply List.ext_getElem (by simp [u8s,madeCells,Value.cells])
   intro j h1 h2
   simp [u8s,madeCells,Value.cells,Nat.mod_one]
  rw [h0] at hown
  have hml:(makeB n).length=m:=by rw [zNB];exact hm
  have hme:makeB n=List.replicate m 0:=by unfold makeB;rw [hm]
  rw [hml,hme]
  exact ⟨_,m,rfl,(Keep.refl NoB w).grown hgr (by simp),hown⟩
theorem zIL (bs:List Int) (hb:OkB bs) (i:Nat) (hk:i/8<bs.length):(bits .and .u8 (bs[i/8]/2 ^ (i%8)) 1==1)=getB bs i:=by
 have hx:=hb _ (List.getElem_mem hk)
 unfold getB
 rw [List.getD_eq_getElem?_getD,List.getElem?_eq_getElem hk,Option.getD_some]
 generalize bs[i/8]=x at hx ⊢
 obtain ⟨m,rfl⟩:∃ m:Nat,x=m:=⟨x.toNat,by omega⟩
 have h2:((m:Int)/2 ^ (i%8))=((m/2 ^ (i%8):Nat):Int):=by push_cast;rfl
 have hlt:m/2 ^ (i%8)<256:=Nat.lt_of_le_of_lt (Nat.div_le_self ..) (by omega)
 have h1:=u8_and_nat (m/2 ^ (i%8)) 1 hlt (by decide)
 rw [Nat.and_one_is_mod] at h1
 rw [h2,show (1:Int)=((1:Nat):Int) from rfl,h1,Int.toNat_natCast,Nat.testBit_eq_decide_div_mod_eq]
 by_cases h:m/2 ^ (i%8)%2=1
 ·simp [h]
 ·have:¬ (((m/2 ^ (i%8)%2:Nat):Int)=((1:Nat):Int)):=by omega
  rw [beq_eq_false_iff_ne.2 this,decide_eq_false h]
theorem zvA (A:Option Addr) (c:Nat) (bs:List Int) (hb:OkB bs) (i:Nat) (hi:i≤1000000) (w:World) (h:SliceR 1 (.slice A bs.length c) bs.length (u8s bs) w) :
    Calls Tryz.prog 82 #[.slice A bs.length c,.int .i64 i] w fun e w'=>e=.returned (.bool (getB bs i))∧w=w':=by
 by_cases hk:i/8<bs.length
 ·obtain ⟨ad,rfl,q1⟩:=SliceR.int_at (k:=.u8) h (i/8) hk
  have hx:=hb _ (List.getElem_mem hk)
  have hk':((i/8:Nat):Int)<bs.length:=by omega
  have HE:=LH (zIL bs hb i hk)
  clear h
  go_enter Tryz.func82,Tryz.ntmps82
  go_wp2
  go_ret
  exact ⟨by rw [← HE.out];rfl,rfl⟩
 ·have hk':¬ (((i/8:Nat):Int)<bs.length):=by omega
  have HE:Hid (false=getB bs i):=LH (by
   unfold getB
   rw [List.getD_eq_getElem?_getD,List.getElem?_eq_none (by omega)]
   simp)
  go_enter Tryz.func82,Tryz.ntmps82
  go_wp2
  go_ret
  exact ⟨by rw [← HE.out];rfl,rfl⟩
theorem zJL (bs:List Int) (hb:OkB bs) (i:Nat) (hk:i/8<bs.length):bits .or .u8 bs[i/8] (IntKind.u8.wrap (2 ^ (i%8)))=(((bs.getD (i/8) 0).toNat ||| 2 ^ (i%8):Nat):Int):=by
 have hx:=hb _ (List.getElem_mem hk)
 rw [List.getD_eq_getElem?_getD,List.getElem?_eq_getElem hk,Option.getD_some]
 generalize bs[i/8]=x at hx ⊢
 obtain ⟨m,rfl⟩:∃ m:Nat,x=m:=⟨x.toNat,by omega⟩
 have hp:2 ^ (i%8)<256:=Nat.pow_lt_pow_right (m:=i%8) (n:=8) (by omega) (by omega)
 have hc:((2:Int) ^ (i%8))=((2 ^ (i%8):Nat):Int):=by push_cast;rfl
 have hw:IntKind.u8.wrap ((2 ^ (i%8):Nat):Int)=((2 ^ (i%8):Nat):Int):=by
  generalize 2 ^ (i%8)=p at hp
  exact IntWalk.u8_in _ (by omega)
 rw [hc,hw,u8_or_nat m (2 ^ (i%8)) (by omega) hp,Int.toNat_natCast]
theorem zbH (A:Option Addr) (c:Nat) (bs:List Int) (hb:OkB bs) (hlen:bs.length≤100000) (i:Nat) (hi:i≤1000000) (w:World) (h:SliceR 1 (.slice A bs.length c) bs.length (u8s bs) w) :
    Calls Tryz.prog 121 #[.slice A bs.length c,.int .i64 i] w fun e w'=>∃ A c,e=.returned (.slice A (setB bs i).length c)∧Grow w w'∧w'.ownsRow w.heap.size 5 1 (.slice A (setB bs i).length c) (setB bs i).length (u8s (setB bs i)):=by
 rw [zyB]
 have H:=LH h
 have HB:=LH hb
 have hi0:(0:Int)≤i:=by omega
 clear h hb
 go_enter Tryz.func121,Tryz.ntmps121
 go_wp2_with fail
 refine (ziB _ bs w H.out (by omega)).mono ?_
 rintro e w1 ⟨A1,c1,rfl,ho,hg⟩
 have HO:=LH ho
 have HG:=LH hg
 clear ho hg
 by_cases hk:i/8<bs.length
 ·have hk':((i/8:Nat):Int)<bs.length:=by omega
  obtain ⟨r,c2,e,_,_,hcs⟩:=zMA HO.out (by omega)
  injection e with e1 e2 e3
  subst e1
  have q1:w1.cell? ⟨r,i/8,none⟩=some (.int .u8 bs[i/8]):=by
   have:=hcs (i/8) (.int .u8 bs[i/8]) (by simp [u8s,hk])
   simpa using this
  have f1:w1.frozen? ⟨r,i/8,none⟩=false:=HO.out.frozenAt _
  have hx:=HB.out _ (List.getElem_mem hk)
  have HCS:=LH hcs
  clear hcs
  have hwq:IntKind.i64.wrap ((i:Int)/8)=(i:Int)/8:=IntWalk.i64_in _ (by omega)
  have hq0:0≤(i:Int)/8:=by omega
  have htm:((i:Int)).tmod 8=(i:Int)%8:=Int.tmod_eq_emod_of_nonneg hi0
  have hr0:0≤(i:Int)%8:=by omega
  have hr8:(i:Int)%8≤8:=by omega
  have hqn:((i:Int)/8).toNat=i/8:=by omega
  have hrn:((i:Int)%8).toNat=i%8:=by omega
  go_wp2
  refine zD [0,1,2,3,4,5,6,7,8,9,10] [10] [4] [10] rfl (by kernel_rfl) ?_
  iterate 4
   refine ord_p ?_
  refine ord_r (y:=by intro w' hg;have q:=hg.cell q1 (fun h=>h);go_simp;with_reducible rfl) (z:=?_)
  iterate 5
   refine ord_p ?_
  refine zK rfl rfl rfl rfl ?_ ?_ (fun h=>absurd (by simp) h) ?_
  rotate_left
  ·go_simp;with_reducible rfl
  refine zF ?_
  have hst:=HO.out.stored (i/8) (.int .u8 (bits .or .u8 bs[i/8] (IntKind.u8.wrap (2 ^ (i%8)))))
  rw [zzG] at hst
  have HS:=LH hst.1
  have hgs:=HG.out.setCell (p:=⟨r,i/8,none⟩) (.inr (HO.out.lt r rfl).1) (.int .u8 (bits .or .u8 bs[i/8] (IntKind.u8.wrap (2 ^ (i%8)))))
  have HGS:=LH hgs
  clear hst hgs
  go_wp2
  go_ret
  refine ⟨_,_,rfl,HGS.out.drew,?_⟩
  unfold setB
  rw [← zJL bs HB.out i hk,← e3]
  exact HS.out
 ·have hk':¬ (((i/8:Nat):Int)<bs.length):=by omega
  go_wp2
  go_ret
  have:setB bs i=bs:=List.set_eq_of_length_le (by omega)
  rw [this]
  exact ⟨A1,c1,rfl,HG.out,HO.out⟩
end Go.Proofs.YtfkcpaahdlkcdaaGreat
namespace Go.Proofs.YtfkcpaahdlkcdaaGreat
open Go.RowKit Go.Shelf
attribute [local go_sem] Oper.semAt_some
def bitL (c:Nat):List Nat:=(List.range 8).filter (fun j=>c.testBit j)
def eachL (bs:List Int):List Nat:=(List.range bs.length).flatMap (fun k=>(bitL (bs.getD k 0).toNat).map (fun j=>k*8+j))
def eachT (bs:List Int) (k:Nat):List Nat:=(List.range k).flatMap (fun k=>(bitL (bs.getD k 0).toNat).map (fun j=>k*8+j))
theorem zcH (bs:List Int) (k:Nat):eachT bs (k+1)=eachT bs k++(bitL (bs.getD k 0).toNat).map (fun j=>k*8+j):=by
 simp [eachT,List.range_succ]
end Go.Proofs.YtfkcpaahdlkcdaaGreat
namespace Go.Proofs.YtfkcpaahdlkcdaaGreat
open Go.RowKit
structure It where
 b:Nat
 k:Int
 t:Int
def ptrs (n:Nat) (a:Nat→It):List Value:=(List.range n).map fun i=>.pointer (some ⟨(a i).b,0,none⟩)
end Go.Proofs.YtfkcpaahdlkcdaaGreat
namespace Go.Proofs.YtfkcpaahdlkcdaaGreat
def It.le (x y:It):Prop:=x.t<y.t∨x.t=y.t∧x.k≤y.k
theorem It.le_trans {x y z:It} (h:x.le y) (k:y.le z):x.le z:=by unfold It.le at *;omega
theorem It.le_refl (x:It):x.le x:=by unfold It.le;omega
end Go.Proofs.YtfkcpaahdlkcdaaGreat

import Derived.Test.YtfkcpaahdlkcdaaGreatRRecvReads23
import Derived.Test.YtfkcpaahdlkcdaaGreatRRecvReads24
import Derived.Test.YtfkcpaahdlkcdaaGreatRRecvReads25
set_option linter.unusedSimpArgs false
set_option linter.unusedVariables false
set_option maxRecDepth 100000
set_option maxHeartbeats 16000000
namespace Go.Proofs.YtfkcpaahdlkcdaaGreat
open Go.RowKit
theorem TreePost.mono {d L n m:Nat} (hnm:n≤m) {v w:World} {e:Ending} {w':World} (h:TreePost d L n v w e w'):TreePost d L m v w e w':=by
 obtain ⟨t,A1,A2,A3,c1,c2,c3,l',A',c',h1,h2,h3,h4,h5,h6,h7,h8⟩:=h
 exact ⟨t,A1,A2,A3,c1,c2,c3,l',A',c',h1,h2,h3,h4,h5,h6,Nat.le_trans h7 hnm,h8⟩
theorem zIG:∀ d:Nat,d≤1000→TreeAt d
 | 0,_=>fun l A c v w hv h hl hu=>zGG l A c 0 v w h hl hu (.inr rfl) 0
 | d + 1, hd => by
  intro l A c v w hv h hl hu
  have IH:Hid (TreeAt d):=LH (zIG d (by omega))
  cases l with
  | nil=>exact zGG [] A c _ v w h hl hu (.inl rfl) _
  | cons x r =>
   have hx:=hu x (List.mem_cons_self ..)
   have hur:okU r:=fun y hy=>hu y (List.mem_cons_of_mem _ hy)
   have hlr:r.length≤1000000:=by simp at hl;omega
   obtain ⟨ad,rfl⟩:∃ ad,A=some ad:=by
    obtain ⟨A9,c9,e9,_,_,_,hq⟩:=h
    injection e9 with e1 _ _
    obtain ⟨ad,ha,_⟩:=hq 0 (.int .u8 x) rfl
    exact ⟨ad,e1.trans ha⟩
   have hdd:(d+1:Nat)≠0:=by omega
   have hde:(((d+1:Nat):Int))-1=d:=by omega
   have hcs:x%8=0∨(x%8=1∨x%8=2)∨x%8=3∨(4≤x%8∧x%8≤6)∨x%8=7:=by omega
   by_cases hc1:c=1
   ·subst hc1
    obtain rfl:r=[]:=by
     obtain ⟨_,_,e,h2,_⟩:=h
     injection e with _ _ e3
     simp at h2
     exact List.eq_nil_of_length_eq_zero (by omega)
    have hm0:∀ {e w'},TreePost (d+1) (([]:List Int).length+1) ([]:List Int).length v w e w'→TreePost (d+1) [x].length [x].length v w e w':=fun hp=>hp.mono (by simp)
    rcases hcs with hc | hc | hc | hc | hc
    ·exact (zrK x ad (d+1) v w hv h hx hdd hc).mono (fun _ _ hp=>hm0 hp)
    ·exact (zeJ x ad (d+1) v w hv h hx hdd (3*(x/8%5)+x%2).toNat (by omega) hc).mono (fun _ _ hp=>hm0 hp)
    ·exact (ztK x ad (d+1) v w hv h hx hdd (x/8%5).toNat (by omega) hc).mono (fun _ _ hp=>hm0 hp)
    ·exact (zvK x ad (d+1) v w hv h hx hdd d hde hd IH (x/8%5).toNat (by omega) hc (x/64).toNat (by omega)).mono (fun _ _ hp=>hm0 hp)
    ·exact (zxK x ad (d+1) v w hv h hx hdd d hde hd IH (x/8%5).toNat (by omega) hc 0 rfl).mono (fun _ _ hp=>hm0 hp)
   ·have hm0:∀ {e w'},TreePost (d+1) (r.length+1) r.length v w e w'→TreePost (d+1) (x :: r).length (x :: r).length v w e w':=fun hp=>hp.mono (by simp)
    have hn:(x :: r).length=r.length+1:=rfl
    generalize (x :: r).length=n at h hn hm0 ⊢
    rcases hcs with hc | hc | hc | hc | hc
    ·exact (zqK x r ad n c (d+1) v w hv h hn hlr hx hur hdd hc1 hc).mono (fun _ _ hp=>hm0 hp)
    ·exact (zdJ x r ad n c (d+1) v w hv h hn hlr hx hur hdd hc1 (3*(x/8%5)+x%2).toNat (by omega) hc).mono (fun _ _ hp=>hm0 hp)
    ·exact (zsK x r ad n c (d+1) v w hv h hn hlr hx hur hdd hc1 (x/8%5).toNat (by omega) hc).mono (fun _ _ hp=>hm0 hp)
    ·exact (zuK x r ad n c (d+1) v w hv h hn hlr hx hur hdd hc1 d hde hd IH (x/8%5).toNat (by omega) hc (x/64).toNat (by omega)).mono (fun _ _ hp=>hm0 hp)
    ·exact (zwK x r ad n c (d+1) v w hv h hn hlr hx hur hdd hc1 d hde hd IH (x/8%5).toNat (by omega) hc 0 rfl).mono (fun _ _ hp=>hm0 hp)
def BentFit (w:World) (e:Ending) (w':World):Prop:=∃ (a:List (List Int)) (A:Option Addr) (c:Nat),e=.returned (.slice A a.length c)∧Grow w w'∧OkA a∧fitsB (szs a)=true∧RowsN w.heap.size a (.slice A a.length c) w'
theorem OkA.of_lim {a:List (List Int)} (h:LimA a) (hn:NumA a):OkA a:=⟨by have:=h.1;omega,fun s hs=>by have:=h.2 s hs;omega,fun s hs x hx=>hn s hs x hx⟩
theorem zfJ (l:List Int) (A:Option Addr) (c:Nat) (k:Int) (w:World) (h:SliceR 1 (.slice A l.length c) l.length (u8s l) w) (hl:l.length≤100) (hu:okU l) (hk0:0≤k) (hk1:k≤255) :
    Calls Tryz.prog 15 #[.slice A l.length c,qI,.int .u8 k] w (BentFit w):=by
 have hc:l.length≤c:=by
  obtain ⟨_,_,e,h2,_⟩:=h
  injection e with _ _ e3
  omega
 have hT:=zIG 6 (by omega) l A c w w (Keep.refl NoB w) h (by omega) hu
 rw [show ((6:Nat):Int)=6 from rfl] at hT
 have HT:=LH hT
 have hlt:((l.length:Nat):Int)<200:=by omega
 have hle:((l.length:Nat):Int)≤200:=by omega
 have hge:¬ (200:Int)≤((l.length:Nat):Int):=by omega
 have hk2:0≤k%30:=by omega
 have hk3:k%30≤29:=by omega
 have hkw:IntKind.i64.wrap (3+k%30)=3+k%30:=IntWalk.i64_in _ (by omega)
 have hmin:min ((l.length:Nat):Int) 200=((l.length:Nat):Int):=Int.min_eq_left hle
 clear h hu hT
 go_enter Tryz.func15,Tryz.ntmps15
 go_wp2_with fail
 refine HT.out.mono ?_
 rintro e w1 ⟨t,A1,A2,A3,c1,c2,c3,l',A',c',rfl,hg,hf,hN,hB,_,_,_,hTN⟩
 have HTN:Hid (rightB 32 t=true∧(needL 32 t:Int)≤700):=LH ⟨(hTN 32 (by omega)).1,by have:=(hTN 32 (by omega)).2;omega⟩
 have HF:=LH (hf.now.grow ((Keep.refl NoB w1).alloc (.cells #[t.kind,t.size,.slice A1 t.ws.length c1,.slice A2 t.bs.length c2,.slice A3 t.kids.length c3] 114)))
 have HNB:=LH (And.intro hN hB)
 have HG:=LH (hg.alloc (.cells #[t.kind,t.size,.slice A1 t.ws.length c1,.slice A2 t.bs.length c2,.slice A3 t.kids.length c3] 114))
 have HC:=LH (heap_alloc_new w1 (.cells #[t.kind,t.size,.slice A1 t.ws.length c1,.slice A2 t.bs.length c2,.slice A3 t.kids.length c3] 114))
 clear hg hf hN hB HT hTN
 go_wp2_with fail
 refine (zBD t _ _ _ (3+k%30) _ HF.out HNB.out.2 HNB.out.1 (by omega) (by omega)).mono ?_
 rintro e w2 ⟨hg2,hr⟩
 have HF2:=LH (HF.out.grow hg2)
 have HSZ:=LH HG.out.size
 replace HG:=LH (HG.out.grow hg2)
 replace HC:=LH (Grow.heap hg2 HC.out)
 clear hg2
 rcases hr with ⟨r,hr,rfl,-⟩ | ⟨a,Aa,ca,rfl,hlim,hnum,hone,hrows⟩
 ·have hrb:(r != 0)=true:=by simp [hr]
  obtain ⟨n0,n1,n2,n3,n4,nf⟩:=zA HC.out
  clear hr
  go_wp2_with fail
  refine (zBD t _ _ _ 4096 _ HF2.out HNB.out.2 HNB.out.1 (by omega) (by omega)).mono ?_
  rintro e w3 ⟨hg3,hr⟩
  replace HSZ:=LH HG.out.size
  replace HG:=LH (HG.out.grow hg3)
  clear hg3 n0 n1 n2 n3 n4 nf
  rcases hr with ⟨r2,hr,rfl,hno⟩ | ⟨a,Aa,ca,rfl,hlim,hnum,hone,hrows⟩
  ·have:=hno HTN.out.1
   have:=HTN.out.2
   omega
  ·have HFIN:Hid (BentFit w (.returned (.slice Aa a.length ca)) w3):=LH ⟨a,Aa,ca,rfl,HG.out,OkA.of_lim hlim hnum,hone,hrows.mono HSZ.out⟩
   clear hlim hnum hone hrows
   go_wp2_with fail
   go_loopw [13] (fun v wr=>v=.int .i64 0∧wr=w3) (fun _ _=>0)
   case atStart=>exact ⟨rfl,rfl⟩
   case round =>
    obtain ⟨rfl,rfl⟩:=hrel
    go_wp2
    go_ret
    exact HFIN.out
 ·have HFIN:Hid (BentFit w (.returned (.slice Aa a.length ca)) w2):=LH ⟨a,Aa,ca,rfl,HG.out,OkA.of_lim hlim hnum,hone,hrows.mono HSZ.out⟩
  clear hlim hnum hone hrows
  go_wp2_with fail
  go_loopw [13] (fun v wr=>v=.int .i64 0∧wr=w2) (fun _ _=>0)
  case atStart=>exact ⟨rfl,rfl⟩
  case round =>
   obtain ⟨rfl,rfl⟩:=hrel
   go_wp2
   go_ret
   exact HFIN.out
structure OfR (w:World) (B6:Nat) (session:Int) (zs:List Int) (A3:Option Addr) (c3:Nat) (F:Nat→Prop) (c:World):Prop where
 grow:Grow w c
 z:c.heap[w.heap.size]? = some (.cells #[qN,qI,qO] 40 (0,0))
 m:c.heap[B6]? = some (.cells #[.int .u64 session,.slice A3 zs.length c3,qO] 40 (0,0))
 s:Foot (SliceR 1 (.slice A3 zs.length c3) zs.length (ints zs)) c F
 hF:∀ k,F k→k<B6
 lo:w.heap.size<B6
theorem OfR.keep {w:World} {B6:Nat} {session:Int} {zs:List Int} {A3:Option Addr} {c3:Nat} {F:Nat→Prop} {c c':World} (h:OfR w B6 session zs A3 c3 F c) (hk:Keep (fun j=>B6<j) c c'):OfR w B6 session zs A3 c3 F c':=by
 have hB:=(gE h.m).1
 refine ⟨((h.grow.mono (T:=fun j=>w.heap.size≤j) (fun _ h=>h.elim)).trans hk (fun j hj=>.inl (by have:=h.lo;omega))).new (fun j hj=>hj),(hk.block _ (Nat.lt_trans h.lo hB) (by have:=h.lo;omega)).trans h.z,(hk.block _ hB (by omega)).trans h.m,h.s.keep hk (fun k hk2=>by have:=h.hF k hk2;omega),h.hF,h.lo⟩
theorem OfR.later {w:World} {B6:Nat} {session:Int} {zs:List Int} {A3:Option Addr} {c3:Nat} {F:Nat→Prop} {c c':World} (h:OfR w B6 session zs A3 c3 F c) (hg:Grow c c'):OfR w B6 session zs A3 c3 F c':=h.keep (hg.mono (fun _ h=>h.elim))
def zB (zs:List Int):List Int:=zs.flatMap (fun x=>putB x 2)
theorem zrL (zs:List Int) (x:Int):zB (zs++[x])=zB zs++putB x 2:=by simp [zB]
theorem zwE (zs:List Int):(zB zs).length=2*zs.length:=by
 induction zs with
 | nil=>rfl
 | cons x r ih=>simp [zB,zX] at ih ⊢;omega
theorem zB_in (zs:List Int):∀ c∈zB zs,0≤c∧c≤255:=fun c hc=>by
 obtain ⟨x,_,h⟩:=List.mem_flatMap.1 hc
 exact zAB _ _ c h
theorem rB_in (ws:List Int):∀ c∈rB ws,0≤c∧c≤255:=fun c hc=>by
 obtain ⟨x,_,h⟩:=List.mem_flatMap.1 hc
 exact zAB _ _ c h
theorem zzK (session:Int) (a:List (List Int)) (ho:OkA a):maniB session a=putB session 8++zB (szs a)++rB a.flatten:=by
 unfold maniB
 rw [zCD a ho]
 rfl
def ROfPost (session:Int) (a:List (List Int)) (w:World) (e:Ending) (w':World):Prop :=
 ∃ A c,e=.returned (.tuple #[.agg #[.int .u64 session,.slice A (szs a).length c,.int .u32 (sumP session a:Nat)],.int .i64 0])∧Grow w w'∧SliceR 1 (.slice A (szs a).length c) (szs a).length (ints (szs a)) w'∧∃ F,Foot (SliceR 1 (.slice A (szs a).length c) (szs a).length (ints (szs a))) w' F∧∀ k,F k→w.heap.size≤k
theorem zTI (session:Int) (h0:0≤session) (h1:session≤18446744073709551615) (a:List (List Int)) (ho:OkA a) (hfit:fitsB (szs a)=true) (hfl:a.flatten.length≤1000000) (A:Option Addr) (c:Nat) (w:World) (hR:RowsR .u64 a (.slice A a.length c) w) :
    Calls Tryz.prog 18 #[.int .u64 session,.slice A a.length c] w (ROfPost session a w):=by
 have hg0:=(Keep.refl NoB w).alloc (.cells #[qN,qI,qO] 40)
 have HZ:=LH (heap_alloc_new w (.cells #[qN,qI,qO] 40))
 have HG:=LH hg0
 have HR0:=LH hR
 have H:=LH (hR.grow hg0)
 have EM:=LH (zzK session a ho)
 have HO:=LH ho
 have HF:=LH hfit
 have HFL:=LH hfl
 have HS01:=LH (And.intro h0 h1)
 clear hR ho hg0 hfit h0 h1 hfl
 go_enter Tryz.func18,Tryz.ntmps18
 go_wp2_with fail
 refine (zcB a A c _ H.out HF.out).mono ?_
 rintro e w1 ⟨rfl,hg⟩
 replace HZ:=LH (Grow.heap hg HZ.out)
 replace HG:=LH (HG.out.grow hg)
 replace H:=LH (H.out.grow hg)
 clear hg
 go_wp2_with fail
 refine (zvA a A c w1 H.out HO.out.segs).mono ?_
 rintro e w2 ⟨A3,c3,rfl,hg,hoz⟩
 have hg6:=(Keep.refl NoB w2).alloc (.cells #[.int .u64 session,.slice A3 (szs a).length c3,qO] 40)
 have HM:Hid (OfR w w2.heap.size session (szs a) A3 c3 (fun k=>(Value.slice A3 (szs a).length c3).ownBlock=some k) (w2.alloc (.cells #[.int .u64 session,.slice A3 (szs a).length c3,qO] 40))) :=
  LH ⟨(HG.out.grow hg).grow hg6,Grow.heap (hg.grow hg6) HZ.out,heap_alloc_new w2 _,(Foot.of_own hoz).grow hg6,fun k hk=>(hoz.lt k hk).2,by
   have h1:=(gE HZ.out).1
   have:=hg.size
   omega⟩
 have HFZ:Hid (∀ k,(Value.slice A3 (szs a).length c3).ownBlock=some k→¬ k=w.heap.size):=LH (fun k hk e=>by
  have h1:=(gE HZ.out).1
  have h2:=(hoz.lt k hk).1
  omega)
 have HFY:Hid (∀ k,(Value.slice A3 (szs a).length c3).ownBlock=some k→w.heap.size≤k):=LH (fun k hk=>by
  have h1:=(gE HZ.out).1
  have h2:=(hoz.lt k hk).1
  omega)
 replace H:=LH (H.out.grow (hg.grow hg6))
 have hszl:=(zM HF.out).2.1
 clear hg hoz hg6 HZ HG
 go_wp2_with fail
 refine (zTC session 8 _ HS01.out.1 HS01.out.2 (Nat.le_refl _)).mono ?_
 rintro e w3 ⟨A4,c4,rfl,hg,hob⟩
 rw [show (w2.alloc (.cells #[.int .u64 session,.slice A3 (szs a).length c3,qO] 40)).heap.size=w2.heap.size+1 from by simp] at hob
 replace HM:=LH (HM.out.later hg)
 replace H:=LH (H.out.grow hg)
 have HB:=LH hob
 clear hg hob
 go_wp2_with fail
 go_loopw [7,8,9] (fun vo v v9 wr=>∃ i:Nat,i≤(szs a).length∧v=.int .i64 i∧∃ A5 c5 n,vo=.slice A5 n c5∧Hid (n=(putB session 8++zB ((szs a).take i)).length∧Keep (fun j=>w2.heap.size<j) w3 wr∧wr.ownsRow (w2.heap.size+1) 5 1 (.slice A5 n c5) n (u8s (putB session 8++zB ((szs a).take i))))) (fun _ v _ _=>(szs a).length-(intOf v).toNat)
 case atStart=>exact ⟨0,by omega,rfl,A4,c4,_,rfl,by simp [zB],Keep.refl _ _,by simpa [zB] using HB.out⟩
 case round =>
  obtain ⟨i,hi,rfl,A5,c5,n5,rfl,HS5⟩:=hrel
  have HM5:=LH (HM.out.keep HS5.out.2.1)
  obtain ⟨m0,m1,m2,mf⟩:=zI HM5.out.m
  have hn5:=HS5.out.1
  rw [List.length_append,zX,zwE,List.length_take,Nat.min_eq_left hi] at hn5
  have hn9:n5≤1000:=by omega
  by_cases hlt:i<(szs a).length
  ·have hw:IntKind.i64.wrap ((i:Int)+1)=(i:Int)+1:=IntWalk.i64_in _ (by omega)
   have hlt':(i:Int)<(szs a).length:=by omega
   obtain ⟨ad2,rfl,q2⟩:=SliceR.int_at (k:=.i64) HM5.out.s.now i hlt
   obtain ⟨hz1,hz2,hznn,hzs⟩:=zM HF.out
   have hx0:=hznn _ (List.getElem_mem hlt)
   have hx1:=zrB hznn i hlt
   have hx2:=zl hznn i
   have hx3:0≤((szs a).take i).sum:=by
    have:=zl (l:=(szs a).take i) (fun x hx=>hznn x (List.mem_of_mem_take hx)) 0
    simpa using this
   have hx4:(szs a)[i]≤4096:=by omega
   have E1:Hid (u8s (putB session 8++zB ((szs a).take (i+1)))=u8s (putB session 8++zB ((szs a).take i))++u8s (putB (szs a)[i] 2)):=LH (by
    rw [List.take_succ_eq_append_getElem hlt,zrL,← List.append_assoc,zdE])
   have E2:Hid (n5+2=(putB session 8++zB ((szs a).take (i+1))).length):=LH (by
    rw [List.length_append,zX,zwE,List.length_take,Nat.min_eq_left hlt];omega)
   clear hz1 hz2 hznn hzs hx1 hx2 hx3 hn5
   go_wp2_with fail
   refine (zTC (szs a)[i] 2 wr hx0 (by omega) (by omega)).mono ?_
   rintro e w5 ⟨A6,c6,rfl,hg,ho⟩
   rw [zX] at ho ⊢
   have HK5:=LH (HS5.out.2.1.grow hg)
   have HO5:=LH (zF HS5.out.2.2 hg (fun _ _ h=>h))
   have HO6:=LH (SliceR.of_own ho)
   have HSZ:Hid (w2.heap.size+1≤w5.heap.size):=LH (by have:=(gE (HM5.out.later hg).m).1;omega)
   clear hg ho
   go_wp2_with (at_builtin;refine zL _ rfl _ _ 23 23 rfl (w2.heap.size+1) 5 (.int .u8 0) 1 1 zW zz rfl (.slice A5 n5 c5) n5 (u8s (putB session 8++zB ((szs a).take i))) rfl (.slice A6 2 c6) 2 (u8s (putB (szs a)[i] 2)) rfl ?_ (by exact HO5.out) (by exact SliceR.src HO6.out zW (zJB _)) (by simp only [maxLen];omega) (by omega) (by exact HSZ.out);intro v7 w7 hap;refine Hid.out ?_)
   refine LH ?_
   have HK7:=LH (HK5.out.grown hap.grew (fun k hk=>.inl (by have:=(HO5.out.lt k hk).1;omega)))
   have Ho7:=LH hap.own
   obtain ⟨A7,c7,rfl,_⟩:=zK hap.own
   clear hap m0 m1 m2 mf
   rw [← E1.out] at Ho7
   go_wp2
   go_roundw
   case rel=>exact ⟨i+1,by omega,by go_num,A7,c7,_,rfl,E2.out,HK7.out,Ho7.out⟩
   case measure=>simp [intOf];omega
  ·obtain rfl:i=(szs a).length:=by omega
   have hlt':¬ (((szs a).length:Int)<(szs a).length):=by omega
   rw [List.take_length] at HS5
   have HH:=LH (HR0.out.grow HM5.out.grow)
   clear hn5 hszl
   go_wp2_with fail
   clear m0 m1 m2 mf
   refine (zDD a HO.out HFL.out A c wr HH.out).mono ?_
   rintro e w6 ⟨A8,c8,rfl,hg,ho8⟩
   have HK6:=LH (HS5.out.2.1.grow hg)
   have HO6:=LH (zF HS5.out.2.2 hg (fun _ _ h=>h))
   have HO8:=LH (SliceR.of_own ho8)
   have HSZ:Hid (w2.heap.size+1≤w6.heap.size):=LH (by have:=(gE (HM5.out.later hg).m).1;omega)
   have hrl:(rB a.flatten).length≤8000000:=by rw [zMB];have:=HFL.out;omega
   clear hg ho8
   go_wp2_with (at_builtin;refine zL _ rfl _ _ 23 23 rfl (w2.heap.size+1) 5 (.int .u8 0) 1 1 zW zz rfl (.slice A5 n5 c5) n5 (u8s (putB session 8++zB (szs a))) rfl (.slice A8 (rB a.flatten).length c8) (rB a.flatten).length (u8s (rB a.flatten)) rfl ?_ (by exact HO6.out) (by exact SliceR.src HO8.out zW (zJB _)) (by simp only [maxLen];omega) (by omega) (by exact HSZ.out);intro v7 w7 hap;refine Hid.out ?_)
   refine LH ?_
   have HK7:=LH (HK6.out.grown hap.grew (fun k hk=>.inl (by have:=(HO6.out.lt k hk).1;omega)))
   have hown:=hap.own
   rw [← zdE,← EM.out,show n5+(rB a.flatten).length=(maniB session a).length from by rw [EM.out,List.length_append,← HS5.out.1]] at hown
   obtain ⟨A7,c7,rfl,_⟩:=zK hown
   have Ho7:=LH (SliceR.of_own hown)
   have hml:(maniB session a).length≤1000000000:=by rw [EM.out,List.length_append,← HS5.out.1];omega
   have hmi:∀ c∈maniB session a,0≤c∧c≤255:=by
    rw [EM.out]
    intro x hx
    rcases List.mem_append.1 hx with hx | hx
    ·rcases List.mem_append.1 hx with hx | hx
     ·exact zAB _ _ x hx
     ·exact zB_in _ x hx
    ·exact rB_in _ x hx
   have HMI:=LH hmi
   have HM7:=LH (HM.out.keep HK7.out)
   clear hap hown hmi
   go_wp2_with fail
   refine (zSI (maniB session a) hml HMI.out A7 c7 w7 Ho7.out).mono ?_
   rintro e w8 ⟨rfl,rfl⟩
   have E9:Hid (moreN 0 (maniB session a)=sumP session a):=LH rfl
   rw [E9.out]
   obtain ⟨sm,HSM⟩:∃ sm,Hid (sumP session a=sm):=⟨_,LH rfl⟩
   rw [HSM.out]
   obtain ⟨m0,m1,m2,mf⟩:=zI HM7.out.m
   have hlo:=HM7.out.lo
   have hW1m:(w7.setCell ⟨w2.heap.size,2,none⟩ (.int .u32 (sm:Nat))).heap[w2.heap.size]? = some (.cells #[.int .u64 session,.slice A3 (szs a).length c3,.int .u32 (sm:Nat)] 40 (0,0)):=by
    have h0:=HM7.out.m
    simp only [World.setCell,Array.getElem?_modify]
    simp [h0]
   have hk1:Keep (fun j=>j=w2.heap.size) w7 (w7.setCell ⟨w2.heap.size,2,none⟩ (.int .u32 (sm:Nat))):=(Keep.refl (fun j=>j=w2.heap.size) w7).setCell (p:=⟨w2.heap.size,2,none⟩) (.inl rfl) _
   have hW1z:=(hk1.block w.heap.size (gE HM7.out.z).1 (by omega)).trans HM7.out.z
   have hW1g:Grow w (w7.setCell ⟨w2.heap.size,2,none⟩ (.int .u32 (sm:Nat))):=HM7.out.grow.setCell (p:=⟨w2.heap.size,2,none⟩) (.inr (by show w.heap.size≤w2.heap.size;omega)) _
   have hW1s:=HM7.out.s.keep hk1 (fun k hk e=>by have:=HM7.out.hF k hk;omega)
   obtain ⟨x0,x1,x2,xf⟩:=zI hW1m
   obtain ⟨y0,y1,y2,yf⟩:=zI hW1z
   obtain ⟨hs3,hg3⟩:=zYE (.int .u64 session) (.slice A3 (szs a).length c3) (.int .u32 (sm:Nat)) hW1g (Nat.le_refl _) hW1z
   have hk3:Keep (fun j=>j=w.heap.size) (w7.setCell ⟨w2.heap.size,2,none⟩ (.int .u32 (sm:Nat))) ((((w7.setCell ⟨w2.heap.size,2,none⟩ (.int .u32 (sm:Nat))).setCell ⟨w.heap.size,0,none⟩ (.int .u64 session)).setCell ⟨w.heap.size,1,none⟩ (.slice A3 (szs a).length c3)).setCell ⟨w.heap.size,2,none⟩ (.int .u32 (sm:Nat))) :=
    ((((Keep.refl (fun j=>j=w.heap.size) _).setCell (p:=⟨w.heap.size,0,none⟩) (.inl rfl) _).setCell (p:=⟨w.heap.size,1,none⟩) (.inl rfl) _).setCell (p:=⟨w.heap.size,2,none⟩) (.inl rfl) _)
   have HFIN:Hid (ROfPost session a w (.returned (.tuple #[.agg #[.int .u64 session,.slice A3 (szs a).length c3,.int .u32 (sm:Nat)],.int .i64 0])) ((((w7.setCell ⟨w2.heap.size,2,none⟩ (.int .u32 (sm:Nat))).setCell ⟨w.heap.size,0,none⟩ (.int .u64 session)).setCell ⟨w.heap.size,1,none⟩ (.slice A3 (szs a).length c3)).setCell ⟨w.heap.size,2,none⟩ (.int .u32 (sm:Nat)))) :=
    LH ⟨A3,c3,by rw [HSM.out],hg3,(hW1s.keep hk3 (fun k hk e=>HFZ.out k hk e)).now,_,hW1s.keep hk3 (fun k hk e=>HFZ.out k hk e),HFY.out⟩
   have HS3:=LH hs3
   clear hW1m hk1 hW1z hW1g hW1s hs3 hg3 hk3 hlo
   go_wp2
   revert HS3 HFIN
   generalize ((((w7.setCell ⟨w2.heap.size,2,none⟩ (.int .u32 (sm:Nat))).setCell ⟨w.heap.size,0,none⟩ (.int .u64 session)).setCell ⟨w.heap.size,1,none⟩ (.slice A3 (szs a).length c3)).setCell ⟨w.heap.size,2,none⟩ (.int .u32 (sm:Nat)))=w9
   intro HFIN HS3
   obtain ⟨y0,y1,y2,yf⟩:=zI HS3.out
   refine bodyPost_ret (v:=.tuple #[.agg #[.int .u64 session,.slice A3 (szs a).length c3,.int .u32 (sm:Nat)],.int .i64 0]) ?_ rfl HFIN.out
   rw [results_cell_tmp rfl];go_simp
theorem zMG (m:Nat):(madeCells (Value.int .u64 0).cells (m*1)).toList=u64s (List.replicate m 0):=by
 apply List.ext_getElem (by simp [u64s,madeCells,Value.cells])
 intro j h1 h2
 simp [u64s,madeCells,Value.cells,Nat.mod_one]
theorem zFD {session:Int} {sum:Nat} {l:List Int} {w wz:World} {As Ak:Option Addr} {cs ck n bw:Nat} {FS:Nat→Prop} (h01:0≤session∧session≤18446744073709551615) (hsum:sum<4294967296) (hf:fitsB l=true) (hn:l.sum=(n:Int))
    (hg:Grow w wz) (hs:Foot (SliceR 1 (.slice As l.length cs) l.length (ints l)) wz FS) (hsk:∀ k,FS k→w.heap.size≤k∧k≠bw)
    (hw:wz.ownsRow 0 22 1 (.slice (some ⟨bw,0,none⟩) n n) n (u64s (List.replicate n 0))) (hwb:w.heap.size≤bw)
    (hk:wz.ownsRow 0 5 1 (.slice Ak (makeB (chunksN l)).length ck) (makeB (chunksN l)).length (u8s (makeB (chunksN l)))) (hkk:∀ k,(Value.slice Ak (makeB (chunksN l)).length ck).ownBlock=some k→w.heap.size≤k∧k≠bw) :
    ∃ p G,Grow w (wz.alloc (.cells #[.int .u64 session,.slice As l.length cs,.int .u32 (sum:Nat),.slice As l.length cs,.slice (some ⟨bw,0,none⟩) n n,.slice Ak (makeB (chunksN l)).length ck] 247)) ∧
     PAt wz.heap.size p ⟨session,l,sum,List.replicate n 0,makeB (chunksN l)⟩ G (wz.alloc (.cells #[.int .u64 session,.slice As l.length cs,.int .u32 (sum:Nat),.slice As l.length cs,.slice (some ⟨bw,0,none⟩) n n,.slice Ak (makeB (chunksN l)).length ck] 247))∧w.heap.size≤wz.heap.size∧w.heap.size≤p.wb∧∀ k,G k→w.heap.size≤k:=by
 have hga:=(Keep.refl NoB wz).alloc (.cells #[.int .u64 session,.slice As l.length cs,.int .u32 (sum:Nat),.slice As l.length cs,.slice (some ⟨bw,0,none⟩) n n,.slice Ak (makeB (chunksN l)).length ck] 247)
 have hcell:=heap_alloc_new wz (.cells #[.int .u64 session,.slice As l.length cs,.int .u32 (sum:Nat),.slice As l.length cs,.slice (some ⟨bw,0,none⟩) n n,.slice Ak (makeB (chunksN l)).length ck] 247)
 have hbl:=(hw.lt bw rfl).2
 refine ⟨⟨As,cs,bw,n,Ak,ck⟩,fun k=>FS k∨(Value.slice Ak (makeB (chunksN l)).length ck).ownBlock=some k,hg.grow hga,⟨?_,?_,(hs.grow hga).and ((Foot.of_own hk).grow hga),⟨?_,?_,?_⟩,?_⟩,hg.size,hwb,?_⟩
 ·simpa using hcell
 ·have:=zF hw hga (fun _ _ h=>h)
  simpa using this
 ·show wz.heap.size≠bw
  omega
 ·rintro (h | h)
  ·have:=hs.lt h;omega
  ·have:=(hk.lt _ h).2;omega
 ·rintro (h | h)
  ·exact (hsk _ h).2 rfl
  ·exact (hkk _ h).2 rfl
 ·exact ⟨h01.1,h01.2,hsum,hf,by show ((List.replicate n (0:Int)).length:Int)=_;rw [List.length_replicate];exact hn.symm,fun x hx=>by rw [List.eq_of_mem_replicate hx];decide,OkB.make _,zQB _⟩
 ·rintro k (h | h)
  ·exact (hsk k h).1
  ·exact (hkk k h).1
theorem zqD {base e size n:Nat} {v:Value} {xs:List Value} {w:World} (h:w.ownsRow base e size v n xs):w.ownsRow 0 e size v n xs:=zsI h
theorem zUI (session:Int) (sum:Nat) (h01:0≤session∧session≤18446744073709551615) (hsum:sum<4294967296) (A:Option Addr) (c:Nat) (l:List Int) (hf:fitsB l=true) (n:Nat) (hn:l.sum=(n:Int)) (w:World) (h:SliceR 1 (.slice A l.length c) l.length (ints l) w) :
    Calls Tryz.prog 166 #[.agg #[.int .u64 session,.slice A l.length c,.int .u32 (sum:Nat)]] w fun e w'=>∃ b p G,e=.returned (.tuple #[.pointer (some ⟨b,0,none⟩),.int .u16 0])∧Grow w w'∧PAt b p ⟨session,l,sum,List.replicate n 0,makeB (chunksN l)⟩ G w'∧w.heap.size≤b∧w.heap.size≤p.wb∧∀ k,G k→w.heap.size≤k:=by
 have HG:=LH ((Keep.refl NoB w).alloc (.cells #[.int .u64 session,.slice A l.length c,.int .u32 (sum:Nat)] 40))
 have HH:=LH (h.grow HG.out)
 have HC:=LH (heap_alloc_new w (.cells #[.int .u64 session,.slice A l.length c,.int .u32 (sum:Nat)] 40))
 have HF:=LH hf
 have HS01:=LH h01
 have HSUM:=LH hsum
 have HN:=LH hn
 obtain ⟨hl1,hl2,hnn,hs9⟩:=zM hf
 have hn9:n≤4096:=by omega
 have hq9:chunksN l≤512:=by unfold chunksN;omega
 obtain ⟨m0,m1,m2,mf⟩:=zI HC.out
 clear h hf hnn hn h01 hsum
 go_enter Tryz.func166,Tryz.ntmps166
 go_wp2_with fail
 refine (zuC session sum A c l _ HH.out HF.out).mono ?_
 rintro e w1 ⟨rfl,hg⟩
 replace HG:=LH (HG.out.grow hg)
 replace HH:=LH (HH.out.grow hg)
 replace HC:=LH (Grow.heap hg HC.out)
 clear hg m0 m1 m2 mf
 obtain ⟨m0,m1,m2,mf⟩:=zI HC.out
 go_wp2_with fail
 refine (zEA (.slice A l.length c) l w1 HH.out (by omega)).mono ?_
 rintro e w2 ⟨A3,c3,rfl,hos,hg⟩
 have hc2:=Grow.heap hg HC.out
 have hlt2:=(gE HC.out).1
 have hc3:(w2.setCell ⟨w.heap.size,1,none⟩ (.slice A3 l.length c3)).heap[w.heap.size]? = some (.cells #[.int .u64 session,.slice A3 l.length c3,.int .u32 (sum:Nat)] 40 (0,0)):=by
  simp only [World.setCell,Array.getElem?_modify]
  simp [hc2]
 have hk3:Keep (fun k=>k=w.heap.size) w2 (w2.setCell ⟨w.heap.size,1,none⟩ (.slice A3 l.length c3)):=(Keep.refl (fun k=>k=w.heap.size) w2).setCell (p:=⟨w.heap.size,1,none⟩) (.inl rfl) _
 have HSO:=LH (zF hos hk3 (fun k hk e=>by have h1:=(hos.lt k hk).1;have e2:k=w.heap.size:=e;omega))
 have HG3:=LH ((HG.out.grow hg).setCell (p:=⟨w.heap.size,1,none⟩) (.inr (Nat.le_refl _)) (.slice A3 l.length c3))
 obtain ⟨n0,n1,n2,nf⟩:=zI hc2
 have HC3:=LH hc3
 have hws:(w2.setCell ⟨w.heap.size,1,none⟩ (.slice A3 l.length c3)).heap.size=w2.heap.size:=World.size_setCell _ _ _
 have HW1:Hid (w.heap.size≤w1.heap.size):=LH HG.out.size
 clear m0 m1 m2 mf hg hos hc2 hc3 hk3 hlt2 HG
 go_wp2
 clear n0 n1 n2 nf
 revert HSO HG3 HC3 hws
 generalize w2.setCell ⟨w.heap.size,1,none⟩ (.slice A3 l.length c3)=w3
 intro HSO HG3 HC3 hws
 obtain ⟨m0,m1,m2,mf⟩:=zI HC3.out
 have HSL:=LH (SliceR.of_own HSO.out)
 have HCW:=LH (zTA session sum A3 c3 l w3.drew (HSL.out.grow (Keep.refl NoB w3).drew) HF.out)
 rw [HN.out] at HCW
 refine zOB NoB [0,1,2,3,6,4] [4] [0,2,3,6] [] #[true,true,true,true,true,false,true,false,false,false,false,false,false,false] 8 rfl (by kernel_rfl) ?_
 refine oc3 m0 m1 m2 ?_
 refine ord_p ?_
 refine oc3 m0 m1 m2 ?_
 refine oc3 m0 m1 m2 ?_
 refine oc3 m0 m1 m2 ?_
 refine zG rfl rfl rfl rfl rfl Tryz.func102 rfl rfl [.agg #[.int .u64 session,.slice A3 l.length c3,.int .u32 (sum:Nat)]] rfl ?_
 refine HCW.out.mono ?_
 rintro e wW ⟨rfl,hgW⟩
 refine ⟨_,rfl,fun _=>hgW,?_⟩
 simp only [Act.put,pB,pC,pD]
 have hgW2:=(Keep.refl NoB w3).drew.grow hgW
 have hwd:w3.drew.heap.size=w3.heap.size:=rfl
 clear m0 m1 m2 mf
 refine zD ?_
 refine zrA 5 7 #[true,true,true,true,true,true,true,false,false,false,false,false,false,false] #[true,true,true,true,true,false,true,true,false,false,false,false,false,false] (by kernel_rfl) ?_ ?_
 ·
  refine zpD rfl rfl rfl rfl _ _ _ rfl 0 22 (.int .u64 0) 1 8 zCA zj .i64 .i64 _ _ n rfl rfl (by rfl) (by rfl) (by omega) (by simp only [maxLen];omega) (Nat.zero_le _) ?_
  intro wM hownM hgrM
  have hgM:Grow wW wM:=(Keep.refl NoB wW).grown hgrM (by simp)
  refine ⟨fun _=>hgM,?_⟩
  rw [zMG] at hownM
  refine zD ?_
  refine zPA [7,8,9,10,11,12,13] [7,8,11,12,13] [] (by kernel_rfl) ?_
  have hcc:=zg session sum A3 c3 l wM (HSL.out.grow (hgW2.grow hgM)) HF.out
  refine zG rfl rfl rfl rfl rfl Tryz.func64 rfl rfl [.agg #[.int .u64 session,.slice A3 l.length c3,.int .u32 (sum:Nat)]] rfl ?_
  refine hcc.mono ?_
  rintro e wC ⟨rfl,hgC⟩
  refine ⟨_,rfl,fun _=>hgC,?_⟩
  simp only [Act.put,pB,pC,pD]
  have hbm:=zDC (chunksN l) (by omega) wC
  refine zG rfl rfl rfl rfl rfl Tryz.func66 rfl rfl [.int .i64 (chunksN l:Nat)] rfl ?_
  refine hbm.mono ?_
  rintro e wK ⟨A9,c9,rfl,hgK,hoK⟩
  refine ⟨_,rfl,fun _=>hgK,?_⟩
  simp only [Act.put,pB,pC,pD]
  iterate 2
   refine ord_p ?_
  refine zh rfl rfl rfl rfl ?_ ?_ ?_ ?_ ?_ ?_
  rotate_left 3
  ·go_simp;first | with_reducible rfl | (constructor <;> with_reducible rfl)
  ·simp only [Act.put,pB,pC,pD];rfl
  iterate 2
   refine ord_s ?_
  refine zD ?_
  have hlM:=(hownM.lt wW.heap.size rfl).2
  have s1:=HW1.out
  have s2:=HG3.out.size
  have s3:=hgW.size
  have s4:=hgC.size
  have s5:=hgK.size
  have s6:=hgM.size
  have hfin:=zFD (session:=session) (sum:=sum) HS01.out HSUM.out HF.out HN.out (HG3.out.grow (((hgW2.grow hgM).grow hgC).grow hgK)) ((Foot.of_own HSO.out).grow (((hgW2.grow hgM).grow hgC).grow hgK)) (fun k hk=>⟨by have:=(HSO.out.lt k hk).1;omega,by have:=(HSO.out.lt k hk).2;omega⟩) (zF hownM (hgC.grow hgK) (fun _ _ h=>h)) (by omega) (zqD hoK) (fun k hk=>⟨by have:=(hoK.lt k hk).1;omega,by have:=(hoK.lt k hk).1;omega⟩)
  have HFIN:=LH hfin
  clear hfin hlM s1 s2 s3 s4 s5 s6 hownM hgM hgC hgK hoK hgrM hgW hgW2 hwd hws
  go_wp2
  go_ret2
  obtain ⟨p,G,hgf,hP,hb1,hb2,hb3⟩:=HFIN.out
  exact ⟨_,p,G,rfl,hgf,hP,hb1,hb2,hb3⟩
 ·
  have hcc:=zg session sum A3 c3 l wW (HSL.out.grow (hgW2)) HF.out
  refine zG rfl rfl rfl rfl rfl Tryz.func64 rfl rfl [.agg #[.int .u64 session,.slice A3 l.length c3,.int .u32 (sum:Nat)]] rfl ?_
  refine hcc.mono ?_
  rintro e wC ⟨rfl,hgC⟩
  refine ⟨_,rfl,fun _=>hgC,?_⟩
  simp only [Act.put,pB,pC,pD]
  refine zD ?_
  refine zrA 5 8 #[true,true,true,true,true,true,true,true,false,false,false,false,false,false] #[true,true,true,true,true,false,true,true,true,false,false,false,false,false] (by kernel_rfl) ?_ ?_
  ·
   refine zpD rfl rfl rfl rfl _ _ _ rfl 0 22 (.int .u64 0) 1 8 zCA zj .i64 .i64 _ _ n rfl rfl (by rfl) (by rfl) (by omega) (by simp only [maxLen];omega) (Nat.zero_le _) ?_
   intro wM hownM hgrM
   have hgM:Grow wC wM:=(Keep.refl NoB wC).grown hgrM (by simp)
   refine ⟨fun _=>hgM,?_⟩
   rw [zMG] at hownM
   refine zD ?_
   refine zPA [8,9,10,11,12,13] [8,11,12,13] [] (by kernel_rfl) ?_
   have hbm:=zDC (chunksN l) (by omega) wM
   refine zG rfl rfl rfl rfl rfl Tryz.func66 rfl rfl [.int .i64 (chunksN l:Nat)] rfl ?_
   refine hbm.mono ?_
   rintro e wK ⟨A9,c9,rfl,hgK,hoK⟩
   refine ⟨_,rfl,fun _=>hgK,?_⟩
   simp only [Act.put,pB,pC,pD]
   iterate 2
    refine ord_p ?_
   refine zh rfl rfl rfl rfl ?_ ?_ ?_ ?_ ?_ ?_
   rotate_left 3
   ·go_simp;first | with_reducible rfl | (constructor <;> with_reducible rfl)
   ·simp only [Act.put,pB,pC,pD];rfl
   iterate 2
    refine ord_s ?_
   refine zD ?_
   have hlM:=(hownM.lt wC.heap.size rfl).2
   have s1:=HW1.out
   have s2:=HG3.out.size
   have s3:=hgW.size
   have s4:=hgC.size
   have s5:=hgK.size
   have s6:=hgM.size
   have hfin:=zFD (session:=session) (sum:=sum) HS01.out HSUM.out HF.out HN.out (HG3.out.grow (((hgW2.grow hgC).grow hgM).grow hgK)) ((Foot.of_own HSO.out).grow (((hgW2.grow hgC).grow hgM).grow hgK)) (fun k hk=>⟨by have:=(HSO.out.lt k hk).1;omega,by have:=(HSO.out.lt k hk).2;omega⟩) (zF hownM hgK (fun _ _ h=>h)) (by omega) (zqD hoK) (fun k hk=>⟨by have:=(hoK.lt k hk).1;omega,by have:=(hoK.lt k hk).1;omega⟩)
   have HFIN:=LH hfin
   clear hfin hlM s1 s2 s3 s4 s5 s6 hownM hgM hgC hgK hoK hgrM hgW hgW2 hwd hws
   go_wp2
   go_ret2
   obtain ⟨p,G,hgf,hP,hb1,hb2,hb3⟩:=HFIN.out
   exact ⟨_,p,G,rfl,hgf,hP,hb1,hb2,hb3⟩
  ·
   have hbm:=zDC (chunksN l) (by omega) wC
   refine zG rfl rfl rfl rfl rfl Tryz.func66 rfl rfl [.int .i64 (chunksN l:Nat)] rfl ?_
   refine hbm.mono ?_
   rintro e wK ⟨A9,c9,rfl,hgK,hoK⟩
   refine ⟨_,rfl,fun _=>hgK,?_⟩
   simp only [Act.put,pB,pC,pD]
   refine zD ?_
   refine zPA [5,9,10,11,12,13] [5,11,12,13] [] (by kernel_rfl) ?_
   refine zpD rfl rfl rfl rfl _ _ _ rfl 0 22 (.int .u64 0) 1 8 zCA zj .i64 .i64 _ _ n rfl rfl (by rfl) (by rfl) (by omega) (by simp only [maxLen];omega) (Nat.zero_le _) ?_
   intro wM hownM hgrM
   have hgM:Grow wK wM:=(Keep.refl NoB wK).grown hgrM (by simp)
   refine ⟨fun _=>hgM,?_⟩
   rw [zMG] at hownM
   iterate 2
    refine ord_p ?_
   refine zh rfl rfl rfl rfl ?_ ?_ ?_ ?_ ?_ ?_
   rotate_left 3
   ·go_simp;first | with_reducible rfl | (constructor <;> with_reducible rfl)
   ·simp only [Act.put,pB,pC,pD];rfl
   iterate 2
    refine ord_s ?_
   refine zD ?_
   have hlM:=(hownM.lt wK.heap.size rfl).2
   have s1:=HW1.out
   have s2:=HG3.out.size
   have s3:=hgW.size
   have s4:=hgC.size
   have s5:=hgK.size
   have s6:=hgM.size
   have hfin:=zFD (session:=session) (sum:=sum) HS01.out HSUM.out HF.out HN.out (HG3.out.grow (((hgW2.grow hgC).grow hgK).grow hgM)) ((Foot.of_own HSO.out).grow (((hgW2.grow hgC).grow hgK).grow hgM)) (fun k hk=>⟨by have:=(HSO.out.lt k hk).1;omega,by have:=(HSO.out.lt k hk).2;omega⟩) (zF hownM (Keep.refl NoB wM) (fun _ _ h=>h)) (by omega) (zF (zqD hoK) hgM (fun _ _ h=>h)) (fun k hk=>⟨by have:=(hoK.lt k hk).1;omega,by have:=(hoK.lt k hk).2;omega⟩)
   have HFIN:=LH hfin
   clear hfin hlM s1 s2 s3 s4 s5 s6 hownM hgM hgC hgK hoK hgrM hgW hgW2 hwd hws
   go_wp2
   go_ret2
   obtain ⟨p,G,hgf,hP,hb1,hb2,hb3⟩:=HFIN.out
   exact ⟨_,p,G,rfl,hgf,hP,hb1,hb2,hb3⟩
theorem zAL {b:Nat} {p:PP} {d:Par} {G:Nat→Prop} {w:World} (h:PAt b p d G w) (i:Nat) (hi:i<chunksN d.sz) (hgb:getB d.known i=true) (A:Option Addr) (n c:Nat) (hl:(n:Int)=sizeN d.sz i) :
    Calls Tryz.prog 106 #[.pointer (some ⟨b,0,none⟩),.int .i64 (i:Nat),.slice A n c] w fun e w'=>e=.returned (.bool true)∧Grow w w':=by
 obtain ⟨c0,c1,c2,c3,c4,c5,cf⟩:=zQA h.cell
 have hq:chunksN d.sz≤512:=by have:=zM h.ok.fit;unfold chunksN;omega
 have hi0:¬ ((i:Int)<0):=by omega
 have hi1:¬ ((chunksN d.sz:Int)≤(i:Int)):=by omega
 have hi2:decide (chunksN d.sz≤i)=false:=decide_eq_false (by omega)
 have hne:((n:Int) != sizeN d.sz i)=false:=by rw [hl];simp
 have HP:=LH h
 have HGB:=LH hgb
 have HI:=LH hi
 clear h hgb hi hl
 go_enter Tryz.func106,Tryz.ntmps106
 go_wp2_with fail
 refine (zg d.session d.sum p.As p.cs d.sz _ HP.out.ro.now.1 HP.out.ok.fit).mono ?_
 rintro e w1 ⟨rfl,hg⟩
 have HG:=LH hg
 replace HP:=LH (HP.out.grow hg)
 clear hg c0 c1 c2 c3 c4 c5 cf
 obtain ⟨c0,c1,c2,c3,c4,c5,cf⟩:=zQA HP.out.cell
 go_wp2_with fail
 refine (zeD d.session d.sum p.As p.cs d.sz _ HP.out.ro.now.1 HP.out.ok.fit i HI.out).mono ?_
 rintro e w2 ⟨rfl,hg⟩
 replace HG:=LH (HG.out.grow hg)
 replace HP:=LH (HP.out.grow hg)
 clear hg c0 c1 c2 c3 c4 c5 cf
 obtain ⟨c0,c1,c2,c3,c4,c5,cf⟩:=zQA HP.out.cell
 have hbg:=zhA p.Ak p.ck d.known HP.out.ok.known i (by omega) w2 HP.out.ro.now.2
 rw [HGB.out] at hbg
 have HBG:=LH hbg
 clear hbg
 go_wp2_with fail
 refine HBG.out.mono ?_
 rintro e w3 ⟨rfl,rfl⟩
 go_wp2
 go_ret
 exact ⟨rfl,HG.out⟩
theorem zwA {b:Nat} {p:PP} {d:Par} {G:Nat→Prop} {w:World} (h:PAt b p d G w) :
    Calls Tryz.prog 117 #[.pointer (some ⟨b,0,none⟩)] w fun e w'=>∃ A c,e=.returned (.slice A d.known.length c)∧Grow w w'∧w'.ownsRow w.heap.size 5 1 (.slice A d.known.length c) d.known.length (u8s d.known):=by
 obtain ⟨c0,c1,c2,c3,c4,c5,cf⟩:=zQA h.cell
 have hq:d.known.length≤1000:=by have:=zM h.ok.fit;rw [h.ok.klen];unfold chunksN;omega
 have HP:=LH h
 clear h
 go_enter Tryz.func117,Tryz.ntmps117
 go_wp2_with fail
 refine (zlB (.slice p.Ak d.known.length p.ck) d.known w HP.out.ro.now.2 (by omega)).mono ?_
 rintro e w1 ⟨A1,c1',rfl,ho,hg⟩
 go_wp2
 go_ret
 exact ⟨_,_,rfl,hg,ho⟩
theorem zpA {b:Nat} {p:PP} {d:Par} {G:Nat→Prop} {w:World} (h:PAt b p d G w) :
    Calls Tryz.prog 118 #[.pointer (some ⟨b,0,none⟩)] w fun e w'=>∃ A c,e=.returned (.agg #[.int .u64 d.session,.slice A d.sz.length c,.int .u32 (d.sum:Nat)])∧Grow w w'∧w'.ownsRow w.heap.size 3 1 (.slice A d.sz.length c) d.sz.length (ints d.sz):=by
 have hs:=zM h.ok.fit
 have hg0:=(Keep.refl NoB w).alloc (.cells #[qN,qI,qO] 40)
 have hz:=heap_alloc_new w (.cells #[qN,qI,qO] 40)
 have hP0:=h.grow hg0
 obtain ⟨c0,c1,c2,c3,c4,c5,cf⟩:=zQA hP0.cell
 have hg1:=(Keep.refl NoB (w.alloc (.cells #[qN,qI,qO] 40))).alloc (.cells #[.int .u64 d.session,.slice p.As d.sz.length p.cs,.int .u32 (d.sum:Nat)] 40)
 have hm:=heap_alloc_new (w.alloc (.cells #[qN,qI,qO] 40)) (.cells #[.int .u64 d.session,.slice p.As d.sz.length p.cs,.int .u32 (d.sum:Nat)] 40)
 rw [World.size_alloc] at hm
 obtain ⟨m0,m1,m2,mf⟩:=zI hm
 have HP:=LH (hP0.grow hg1)
 have HZ:=LH (Grow.heap hg1 hz)
 have HM:=LH hm
 have HG:=LH (hg0.grow hg1)
 have hl9:d.sz.length≤16:=hs.2.1
 clear h hs hz hP0 hg0 hg1 hm
 go_enter Tryz.func118,Tryz.ntmps118
 go_wp2_with fail
 refine (zEA (.slice p.As d.sz.length p.cs) d.sz _ HP.out.ro.now.1 (by omega)).mono ?_
 rintro e w2 ⟨A3,c3',rfl,hos,hg⟩
 simp only [World.size_alloc] at hos
 have hz2:=Grow.heap hg HZ.out
 have hm2:=Grow.heap hg HM.out
 have hlt:=(gE hm2).1
 obtain ⟨n0,n1,n2,nf⟩:=zI hm2
 have hm3:(w2.setCell ⟨w.heap.size+1,1,none⟩ (.slice A3 d.sz.length c3')).heap[w.heap.size+1]? = some (.cells #[.int .u64 d.session,.slice A3 d.sz.length c3',.int .u32 (d.sum:Nat)] 40 (0,0)):=by
  simp only [World.setCell,Array.getElem?_modify]
  simp [hm2]
 obtain ⟨q0,q1,q2,qf⟩:=zI hm3
 have hk3:Keep (fun k=>k=w.heap.size+1) w2 (w2.setCell ⟨w.heap.size+1,1,none⟩ (.slice A3 d.sz.length c3')):=(Keep.refl (fun k=>k=w.heap.size+1) w2).setCell (p:=⟨w.heap.size+1,1,none⟩) (.inl rfl) _
 have hz3:=(hk3.block w.heap.size (by omega) (by omega)).trans hz2
 obtain ⟨z0,z1,z2,zf⟩:=zI hz3
 have hg3:=(HG.out.grow hg).setCell (p:=⟨w.heap.size+1,1,none⟩) (.inr (by show w.heap.size≤w.heap.size+1;omega)) (.slice A3 d.sz.length c3')
 obtain ⟨hs4,hg4⟩:=zYE (.int .u64 d.session) (.slice A3 d.sz.length c3') (.int .u32 (d.sum:Nat)) hg3 (Nat.le_refl _) hz3
 have hk4:Keep (fun k=>k=w.heap.size) (w2.setCell ⟨w.heap.size+1,1,none⟩ (.slice A3 d.sz.length c3')) ((((w2.setCell ⟨w.heap.size+1,1,none⟩ (.slice A3 d.sz.length c3')).setCell ⟨w.heap.size,0,none⟩ (.int .u64 d.session)).setCell ⟨w.heap.size,1,none⟩ (.slice A3 d.sz.length c3')).setCell ⟨w.heap.size,2,none⟩ (.int .u32 (d.sum:Nat))) :=
  ((((Keep.refl (fun k=>k=w.heap.size) _).setCell (p:=⟨w.heap.size,0,none⟩) (.inl rfl) _).setCell (p:=⟨w.heap.size,1,none⟩) (.inl rfl) _).setCell (p:=⟨w.heap.size,2,none⟩) (.inl rfl) _)
 have hof:=zF (zF hos hk3 (fun k hk e=>by have h1:=(hos.lt k hk).1;have e2:k=w.heap.size+1:=e;omega)) hk4 (fun k hk e=>by have h1:=(hos.lt k hk).1;have e2:k=w.heap.size:=e;omega)
 have HFIN:=LH (And.intro hg4 (ztA hof (by omega:w.heap.size≤w.heap.size+1+1)))
 have HS4:=LH hs4
 clear hg hos hz2 hm2 hlt hm3 hk3 hz3 hg3 hs4 hg4 hk4 hof m0 m1 m2 mf c0 c1 c2 c3 c4 c5 cf
 go_wp2
 clear n0 n1 n2 nf q0 q1 q2 qf z0 z1 z2 zf
 revert HFIN HS4
 generalize (((w2.setCell ⟨w.heap.size+1,1,none⟩ (.slice A3 d.sz.length c3')).setCell ⟨w.heap.size,0,none⟩ (.int .u64 d.session)).setCell ⟨w.heap.size,1,none⟩ (.slice A3 d.sz.length c3')).setCell ⟨w.heap.size,2,none⟩ (.int .u32 (d.sum:Nat))=w9
 intro HFIN HS4
 obtain ⟨r0,r1,r2,rf⟩:=zI HS4.out
 refine bodyPost_ret (v:=.agg #[.int .u64 d.session,.slice A3 d.sz.length c3',.int .u32 (d.sum:Nat)]) ?_ rfl ⟨_,_,rfl,HFIN.out.1,HFIN.out.2⟩
 rw [zO rfl];go_simp
end Go.Proofs.YtfkcpaahdlkcdaaGreat

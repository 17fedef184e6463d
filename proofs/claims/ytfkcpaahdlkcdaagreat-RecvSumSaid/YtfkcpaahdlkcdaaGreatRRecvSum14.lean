import Derived.Test.YtfkcpaahdlkcdaaGreatRRecvSum07
import Derived.Test.YtfkcpaahdlkcdaaGreatRRecvSum13
set_option linter.unusedSimpArgs false
set_option linter.unusedVariables false
set_option maxRecDepth 100000
set_option maxHeartbeats 16000000
namespace Go.Proofs.YtfkcpaahdlkcdaaGreat
open Go.RowKit
theorem zoA (a:List (List Int)) (A:Option Addr) (c:Nat) (w:World) (h:RowsR .u64 a (.slice A a.length c) w) (ha:a.length≤100000) :
    Calls Tryz.prog 70 #[.slice A a.length c] w fun e w'=>∃ A c,e=.returned (.slice A (szs a).length c)∧Grow w w'∧w'.ownsRow w.heap.size 3 1 (.slice A (szs a).length c) (szs a).length (ints (szs a)):=by
 have H:=LH h
 clear h
 go_enter Tryz.func70,Tryz.ntmps70
 go_wp2
 go_loopw [3,4] (fun vo v wr=>∃ k:Nat,k≤a.length∧v=.int .i64 k∧∃ A4 c4,vo=.slice A4 k c4∧Hid (Grow w wr∧wr.ownsRow w.heap.size 3 1 (.slice A4 k c4) k (ints ((szs a).take k)))) (fun _ v _=>a.length-(intOf v).toNat)
 case atStart=>exact ⟨0,by omega,rfl,none,0,rfl,Keep.refl _ _,by simpa [ints] using World.ownsRow_nil w w.heap.size 3 1⟩
 case round =>
  obtain ⟨k,hk,rfl,A4,c4,rfl,HS⟩:=hrel
  by_cases hlt:k<a.length
  ·obtain ⟨ad,A',c',rfl,h2,_⟩:=(H.out.grow HS.out.1).at_ k hlt
   have hw:IntKind.i64.wrap ((k:Int)+1)=(k:Int)+1:=IntWalk.i64_in _ (by omega)
   have hlt':(k:Int)<a.length:=by omega
   have e1:ints ((szs a).take (k+1))=ints ((szs a).take k)++[.int .i64 a[k].length]:=by
    rw [List.take_succ_eq_append_getElem (by simpa [szs] using hlt)]
    simp [ints,szs]
   have E1:=LH e1
   clear e1
   go_wp2_with (at_builtin;refine zL _ rfl _ _ 37 37 rfl w.heap.size 3 (.int .i64 0) 1 8 zAB zjB rfl (.slice A4 k c4) k (ints ((szs a).take k)) rfl (.slice (some ⟨wr.heap.size,0,none⟩) 1 1) 1 [.int .i64 a[k].length] rfl ?_ (by exact zE HS.out.2 ((Keep.refl NoB wr).alloc _) (fun _ _ h=>h)) (by exact Src.ofSlice _ zAB ⟨wr.heap.size,0,none⟩ 1 1 _ rfl (World.news_of_block (cs:=#[.int .i64 a[k].length]) (t:=3) (fr:=(0,0)) (heap_alloc_new wr _)) (by simp [Value.oneCell'])) (by simp only [maxLen];omega) (by omega) (by have:=HS.out.1.size;simp;omega);intro v2 w2 hap;refine Hid.out ?_)
   refine LH ?_
   have Hg2:Hid (Grow w w2):=((((HS.out.1.mono (T:=fun k=>w.heap.size≤k) (fun _ h=>h.elim)).alloc _).grown hap.grew (fun k hk=>.inl (HS.out.2.lt k hk).1))).new (fun _ h=>h)
   have Ho2:=LH hap.own
   obtain ⟨A6,c6,rfl,_⟩:=zJ hap.own
   clear hap
   rw [← E1.out] at Ho2
   go_wp2
   go_roundw
   case rel=>exact ⟨k+1,by omega,by go_num,A6,c6,rfl,Hg2.out,Ho2.out⟩
   case measure=>simp [intOf];omega
  ·obtain rfl:k=a.length:=by omega
   have hlt':¬ ((a.length:Int)<a.length):=by omega
   go_wp2
   go_ret
   have ho:=HS.out.2
   rw [← zi a,List.take_length] at ho
   exact ⟨A4,c4,by rw [zi];rfl,HS.out.1,ho⟩
theorem zpB {l:List Int} (h0:∀ x∈l,0≤x) (k:Nat) (hk:k<l.length):l[k]≤l.sum-(l.take k).sum:=by
 have h1:=zFA hk
 have h2:=zx h0 (k+1)
 omega
theorem zyD (A:Option Addr) (c:Nat) (l:List Int) (w:World) (h:SliceR 1 (.slice A l.length c) l.length (ints l) w) (hf:fitsB l=true) :
    Calls Tryz.prog 144 #[.slice A l.length c] w fun e w'=>e=.returned (.bool true)∧w=w':=by
 have H:=LH h
 obtain ⟨hl1,hl2,hnn,hsum⟩:=zN hf
 have hx0:1≤l[0]:=by
  unfold fitsB at hf
  simp only [decide_eq_true_eq] at hf
  have:=hf.2.2.1
  cases l with
  | nil=>simp at hl1
  | cons x r=>simpa using this
 have HN:=LH hnn
 clear h hnn hf
 have h1:¬ ((l.length:Int)<1):=by omega
 have h2:¬ ((16:Int)<l.length):=by omega
 obtain ⟨ad,rfl,q0⟩:=SliceR.int_at (k:=.i64) H.out 0 (by omega)
 have q0':w.cell? ad=some (.int .i64 l[0]):=by simpa [Addr.add] using q0
 have hx:¬ (l[0]<1):=by omega
 clear q0
 go_enter Tryz.func144,Tryz.ntmps144
 go_wp2
 clear q0' hx hx0
 go_loopw [3,4] (fun vn v wr=>wr=w∧∃ (k:Nat) (s:Int),k≤l.length∧v=.int .i64 k∧vn=.int .i64 s∧Hid (s=(l.take k).sum)∧0≤s∧s≤4096) (fun _ v _=>l.length-(intOf v).toNat)
 case atStart=>exact ⟨rfl,0,0,by omega,rfl,rfl,LH (by simp),by omega,by omega⟩
 case round =>
  obtain ⟨rfl,k,s,hk,rfl,rfl,HS,hs0,hs1⟩:=hrel
  by_cases hlt:k<l.length
  ·obtain ⟨ad2,e,q1⟩:=SliceR.int_at (k:=.i64) H.out k hlt
   injection e with e
   subst e
   have hw:IntKind.i64.wrap ((k:Int)+1)=(k:Int)+1:=IntWalk.i64_in _ (by omega)
   have hlt':(k:Int)<l.length:=by omega
   have hsu:=zFA hlt
   have hle:=zpB HN.out k hlt
   have hn0:0≤l[k]:=HN.out _ (List.getElem_mem hlt)
   have hs9:=HS.out
   have hw2:IntKind.i64.wrap (4096-s)=4096-s:=IntWalk.i64_in _ (by omega)
   have hw3:IntKind.i64.wrap (s+l[k])=s+l[k]:=IntWalk.i64_in _ (by omega)
   have hb1:¬ (l[k]<0):=by omega
   have hb2:¬ (4096-s<l[k]):=by omega
   have HR:Hid (s+l[k]=(l.take (k+1)).sum∧0≤s+l[k]∧s+l[k]≤4096):=LH ⟨by omega,by omega,by omega⟩
   clear hsu hle hs9
   go_wp2
   go_roundw
   case rel=>exact ⟨trivial,k+1,s+l[k],by omega,by go_num,rfl,LH HR.out.1,HR.out.2.1,HR.out.2.2⟩
   case measure=>simp [intOf];omega
  ·obtain rfl:k=l.length:=by omega
   have hlt':¬ ((l.length:Int)<l.length):=by omega
   go_wp2
   go_ret
   exact ⟨rfl,rfl⟩
theorem zCC (a:List (List Int)) (A:Option Addr) (c:Nat) (w:World) (h:RowsR .u64 a (.slice A a.length c) w) (hf:fitsB (szs a)=true) :
    Calls Tryz.prog 69 #[.slice A a.length c] w fun e w'=>e=.returned (.bool true)∧Grow w w':=by
 have hl:=(zN hf).2.1
 rw [zi] at hl
 have HS:=LH (zoA a A c w h (by omega))
 have HF:=LH hf
 clear h hf hl
 go_enter Tryz.func69,Tryz.ntmps69
 go_wp2_with fail
 refine HS.out.mono ?_
 rintro e w1 ⟨A1,c1,rfl,hg,ho⟩
 have HO:=LH (SliceR.of_own ho)
 have HG:=LH hg
 clear hg ho
 go_wp2_with fail
 refine (zyD A1 c1 (szs a) w1 HO.out HF.out).mono ?_
 rintro e w2 ⟨rfl,rfl⟩
 go_wp2
 go_ret
 exact ⟨rfl,HG.out⟩
def rB (ws:List Int):List Int:=ws.flatMap (fun x=>putB x 8)
theorem zHH (ws:List Int) (x:Int):rB (ws++[x])=rB ws++putB x 8:=by simp [rB]
theorem zKB (ws:List Int):(rB ws).length=8*ws.length:=by
 induction ws with
 | nil=>rfl
 | cons x r ih=>simp [rB,zX] at ih ⊢;omega
theorem zRE (a b:List Int):u8s (a++b)=u8s a++u8s b:=by simp [u8s]
theorem zIH (ws:List Int) (hn:∀ x∈ws,0≤x∧x≤18446744073709551615):∀ k,k≤ws.length→bytesW (upto (fun k=>(k,wat ws k)) k)=rB (ws.take k)
 | 0,_=>by simp [upto,bytesW,rB]
 | k + 1, h => by
  have hk:k<ws.length:=by omega
  have hv:(wat ws k).1=ws[k]:=by
   have:=hn _ (List.getElem_mem hk)
   unfold wat
   have e:ws[k]?.getD 0=ws[k]:=by rw [List.getElem?_eq_getElem hk];rfl
   rw [e,dif_pos this]
  rw [zWA,List.take_succ_eq_append_getElem hk,zHH,← zIH ws hn k (by omega)]
  simp [bytesW,hv]
theorem ztC (a:List (List Int)) (ho:OkA a):arenaB a=rB a.flatten:=by
 unfold arenaB
 rw [zIH a.flatten (fun x hx=>by
  obtain ⟨s,hs,h⟩:=List.mem_flatten.1 hx
  exact ho.nums s hs x h) _ (Nat.le_refl _),List.take_length]
theorem zwE (a:List (List Int)) (i:Nat) (hi:i<a.length) (k:Nat) (hk:k≤a[i].length):((a.take i).flatten++a[i].take k).length≤a.flatten.length:=by
 have h1:(a.take (i+1)).flatten.length≤a.flatten.length:=by
  conv=>rhs;rw [← List.take_append_drop (i+1) a,List.flatten_append,List.length_append]
  omega
 rw [List.take_succ_eq_append_getElem hi,List.flatten_append,List.length_append] at h1
 have e:([a[i]]:List (List Int)).flatten.length=a[i].length:=by simp
 rw [e] at h1
 rw [List.length_append,List.length_take]
 omega
theorem zuC (a:List (List Int)) (ho:OkA a) (hfl:a.flatten.length≤1000000) (A:Option Addr) (c:Nat) (w:World) (h:RowsR .u64 a (.slice A a.length c) w) :
    Calls Tryz.prog 72 #[.slice A a.length c] w fun e w'=>∃ A c,e=.returned (.slice A (rB a.flatten).length c)∧Grow w w'∧w'.ownsRow w.heap.size 5 1 (.slice A (rB a.flatten).length c) (rB a.flatten).length (u8s (rB a.flatten)):=by
 have H:=LH h
 have HO:=LH ho
 have HFL:=LH hfl
 have hseg:=ho.segs
 clear h ho hfl
 go_enter Tryz.func72,Tryz.ntmps72
 go_wp2
 go_loopw [3,4,5,6] (fun vo v v5 v6 wr=>∃ i:Nat,i≤a.length∧v=.int .i64 i∧∃ A4 c4,vo=.slice A4 (rB (a.take i).flatten).length c4∧Hid (Grow w wr∧wr.ownsRow w.heap.size 5 1 (.slice A4 (rB (a.take i).flatten).length c4) (rB (a.take i).flatten).length (u8s (rB (a.take i).flatten)))) (fun _ v _ _ _=>a.length-(intOf v).toNat)
 case atStart=>exact ⟨0,by omega,rfl,none,0,by simp [rB],Keep.refl _ _,by simpa [rB,u8s] using World.ownsRow_nil w w.heap.size 5 1⟩
 case round =>
  obtain ⟨i,hi,rfl,A4,c4,rfl,HS⟩:=hrel
  by_cases hlt:i<a.length
  ·have hw:IntKind.i64.wrap ((i:Int)+1)=(i:Int)+1:=IntWalk.i64_in _ (by omega)
   have hlt':(i:Int)<a.length:=by omega
   go_wp2_with fail
   obtain ⟨wo,rfl⟩:∃ wo:World,wo=wr:=⟨_,rfl⟩
   go_loopw [3,5,6] (fun vo v v6 wr=>∃ k:Nat,k≤a[i].length∧v=.int .i64 k∧∃ A4 c4 n,vo=.slice A4 n c4∧Hid (n=(rB ((a.take i).flatten++a[i].take k)).length∧Grow w wr∧wr.ownsRow w.heap.size 5 1 (.slice A4 n c4) n (u8s (rB ((a.take i).flatten++a[i].take k))))) (fun _ v _ _=>a[i].length-(intOf v).toNat)
   case atStart=>exact ⟨0,by omega,rfl,A4,c4,_,rfl,by simp,HS.out.1,by simpa using HS.out.2⟩
   case round =>
    obtain ⟨k,hk,rfl,A5,c5,n5,rfl,HS5⟩:=hrel
    obtain ⟨ad,A',c',rfl,h2,h3⟩:=(H.out.grow HS5.out.2.1).at_ i hlt
    have hwl:a[i].length≤100000:=HO.out.words _ (List.getElem_mem hlt)
    have hn5:=HS5.out.1
    rw [zKB] at hn5
    have hfk:=zwE a i hlt k hk
    have hn9:n5≤8000000:=by have:=HFL.out;omega
    by_cases hkl:k<a[i].length
    ·have hwk:IntKind.i64.wrap ((k:Int)+1)=(k:Int)+1:=IntWalk.i64_in _ (by omega)
     have hkl':(k:Int)<a[i].length:=by omega
     obtain ⟨ad2,rfl,q2⟩:=SliceR.int_at (k:=.u64) h3 k hkl
     have hx:=HO.out.nums _ (List.getElem_mem hlt) _ (List.getElem_mem hkl)
     have HX:=LH hx
     have E1:Hid (u8s (rB ((a.take i).flatten++a[i].take (k+1)))=u8s (rB ((a.take i).flatten++a[i].take k))++u8s (putB a[i][k] 8)):=LH (by
      rw [List.take_succ_eq_append_getElem hkl,← List.append_assoc,zHH,zRE])
     have E2:Hid (n5+8=(rB ((a.take i).flatten++a[i].take (k+1))).length):=LH (by
      rw [zKB,List.take_succ_eq_append_getElem hkl,← List.append_assoc,List.length_append]
      simp only [List.length_singleton]
      omega)
     clear hx hn5 hfk h3
     go_wp2_with fail
     refine (zQC a[i][k] 8 wr HX.out.1 HX.out.2 (Nat.le_refl _)).mono ?_
     rintro e w2 ⟨A6,c6,rfl,hg2,ho2⟩
     rw [zX] at ho2
     have HG2:=LH (HS5.out.2.1.grow hg2)
     have HO5:=LH (zE HS5.out.2.2 hg2 (fun _ _ h=>h))
     have HO2:=LH (SliceR.of_own ho2)
     rw [zX]
     clear hg2 ho2
     go_wp2_with (at_builtin;refine zL _ rfl _ _ 23 23 rfl w.heap.size 5 (.int .u8 0) 1 1 zW zy rfl (.slice A5 n5 c5) n5 (u8s (rB ((a.take i).flatten++a[i].take k))) rfl (.slice A6 8 c6) 8 (u8s (putB a[i][k] 8)) rfl ?_ (by exact HO5.out) (by exact SliceR.src HO2.out zW (zHB _)) (by simp only [maxLen];omega) (by omega) (by exact HG2.out.size);intro v3 w3 hap;refine Hid.out ?_)
     refine LH ?_
     have Hg3:Hid (Grow w w3):=LH (((HG2.out.mono (T:=fun k=>w.heap.size≤k) (fun _ h=>h.elim)).grown hap.grew (fun k hk=>.inl (HO5.out.lt k hk).1)).new (fun _ h=>h))
     have Ho3:=LH hap.own
     obtain ⟨A7,c7,rfl,_⟩:=zJ hap.own
     clear hap
     rw [← E1.out] at Ho3
     go_wp2
     go_roundw
     case rel=>exact ⟨k+1,by omega,by go_num,A7,c7,_,rfl,E2.out,Hg3.out,Ho3.out⟩
     case measure=>simp [intOf];omega
    ·obtain rfl:k=a[i].length:=by omega
     have hkl':¬ ((a[i].length:Int)<a[i].length):=by omega
     have HF:Hid (n5=(rB (a.take (i+1)).flatten).length∧u8s (rB ((a.take i).flatten++a[i].take a[i].length))=u8s (rB (a.take (i+1)).flatten)):=LH (by
      have e:(a.take (i+1)).flatten=(a.take i).flatten++a[i].take a[i].length:=by
       rw [List.take_succ_eq_append_getElem hlt,List.flatten_append,List.take_length];simp
      rw [e]
      exact ⟨HS5.out.1,rfl⟩)
     have HO5:=LH HS5.out.2.2
     have HG5:=LH HS5.out.2.1
     rw [HF.out.2,HF.out.1] at HO5
     clear hn5 hfk h3
     go_wp2
     go_roundw
     case rel=>exact ⟨i+1,by omega,by go_num,A5,c5,by rw [HF.out.1],HG5.out,HO5.out⟩
     case measure=>simp [intOf];omega
  ·obtain rfl:i=a.length:=by omega
   have hlt':¬ ((a.length:Int)<a.length):=by omega
   rw [List.take_length] at HS ⊢
   go_wp2
   go_ret
   exact ⟨A4,c4,rfl,HS.out.1,HS.out.2⟩
structure OfR (w:World) (B6:Nat) (session:Int) (zs:List Int) (A3:Option Addr) (c3:Nat) (F:Nat→Prop) (c:World):Prop where
 grow:Grow w c
 z:c.heap[w.heap.size]? = some (.cells #[.int .u64 0,.slice none 0 0,.int .u32 0] 40 (0,0))
 m:c.heap[B6]? = some (.cells #[.int .u64 session,.slice A3 zs.length c3,.int .u32 0] 40 (0,0))
 s:Foot (SliceR 1 (.slice A3 zs.length c3) zs.length (ints zs)) c F
 hF:∀ k,F k→k<B6
 lo:w.heap.size<B6
theorem OfR.keep {w:World} {B6:Nat} {session:Int} {zs:List Int} {A3:Option Addr} {c3:Nat} {F:Nat→Prop} {c c':World} (h:OfR w B6 session zs A3 c3 F c) (hk:Keep (fun j=>B6<j) c c'):OfR w B6 session zs A3 c3 F c':=by
 have hB:=(gE h.m).1
 refine ⟨((h.grow.mono (T:=fun j=>w.heap.size≤j) (fun _ h=>h.elim)).trans hk (fun j hj=>.inl (by have:=h.lo;omega))).new (fun j hj=>hj),(hk.block _ (Nat.lt_trans h.lo hB) (by have:=h.lo;omega)).trans h.z,(hk.block _ hB (by omega)).trans h.m,h.s.keep hk (fun k hk2=>by have:=h.hF k hk2;omega),h.hF,h.lo⟩
theorem OfR.later {w:World} {B6:Nat} {session:Int} {zs:List Int} {A3:Option Addr} {c3:Nat} {F:Nat→Prop} {c c':World} (h:OfR w B6 session zs A3 c3 F c) (hg:Grow c c'):OfR w B6 session zs A3 c3 F c':=h.keep (hg.mono (fun _ h=>h.elim))
def zB (zs:List Int):List Int:=zs.flatMap (fun x=>putB x 2)
theorem zxK (zs:List Int) (x:Int):zB (zs++[x])=zB zs++putB x 2:=by simp [zB]
theorem zjE (zs:List Int):(zB zs).length=2*zs.length:=by
 induction zs with
 | nil=>rfl
 | cons x r ih=>simp [zB,zX] at ih ⊢;omega
theorem zB_in (zs:List Int):∀ c∈zB zs,0≤c∧c≤255:=fun c hc=>by
 obtain ⟨x,_,h⟩:=List.mem_flatMap.1 hc
 exact zuA _ _ c h
theorem rB_in (ws:List Int):∀ c∈rB ws,0≤c∧c≤255:=fun c hc=>by
 obtain ⟨x,_,h⟩:=List.mem_flatMap.1 hc
 exact zuA _ _ c h
theorem zFK (session:Int) (a:List (List Int)) (ho:OkA a):maniB session a=putB session 8++zB (szs a)++rB a.flatten:=by
 unfold maniB
 rw [ztC a ho]
 rfl
def ROfPost (session:Int) (a:List (List Int)) (w:World) (e:Ending) (w':World):Prop :=
 ∃ A c,e=.returned (.tuple #[.agg #[.int .u64 session,.slice A (szs a).length c,.int .u32 (sumP session a:Nat)],.int .i64 0])∧Grow w w'∧SliceR 1 (.slice A (szs a).length c) (szs a).length (ints (szs a)) w'∧∃ F,Foot (SliceR 1 (.slice A (szs a).length c) (szs a).length (ints (szs a))) w' F∧∀ k,F k→w.heap.size≤k
theorem zmH (session:Int) (h0:0≤session) (h1:session≤18446744073709551615) (a:List (List Int)) (ho:OkA a) (hfit:fitsB (szs a)=true) (hfl:a.flatten.length≤1000000) (A:Option Addr) (c:Nat) (w:World) (hR:RowsR .u64 a (.slice A a.length c) w) :
    Calls Tryz.prog 18 #[.int .u64 session,.slice A a.length c] w (ROfPost session a w):=by
 have hg0:=(Keep.refl NoB w).alloc (.cells #[.int .u64 0,.slice none 0 0,.int .u32 0] 40)
 have HZ:=LH (heap_alloc_new w (.cells #[.int .u64 0,.slice none 0 0,.int .u32 0] 40))
 have HG:=LH hg0
 have HR0:=LH hR
 have H:=LH (hR.grow hg0)
 have EM:=LH (zFK session a ho)
 have HO:=LH ho
 have HF:=LH hfit
 have HFL:=LH hfl
 have HS01:=LH (And.intro h0 h1)
 clear hR ho hg0 hfit h0 h1 hfl
 go_enter Tryz.func18,Tryz.ntmps18
 go_wp2_with fail
 refine (zCC a A c _ H.out HF.out).mono ?_
 rintro e w1 ⟨rfl,hg⟩
 replace HZ:=LH (Grow.heap hg HZ.out)
 replace HG:=LH (HG.out.grow hg)
 replace H:=LH (H.out.grow hg)
 clear hg
 go_wp2_with fail
 refine (zoA a A c w1 H.out HO.out.segs).mono ?_
 rintro e w2 ⟨A3,c3,rfl,hg,hoz⟩
 have hg6:=(Keep.refl NoB w2).alloc (.cells #[.int .u64 session,.slice A3 (szs a).length c3,.int .u32 0] 40)
 have HM:Hid (OfR w w2.heap.size session (szs a) A3 c3 (fun k=>(Value.slice A3 (szs a).length c3).ownBlock=some k) (w2.alloc (.cells #[.int .u64 session,.slice A3 (szs a).length c3,.int .u32 0] 40))) :=
  LH ⟨(HG.out.grow hg).grow hg6,Grow.heap (hg.grow hg6) HZ.out,heap_alloc_new w2 _,(Foot.of_own hoz).grow hg6,fun k hk=>(hoz.lt k hk).2,by
   have h1:=(gE HZ.out).1
   have:=hg.size
   omega⟩
 have HFZ:Hid (∀ k,(Value.slice A3 (szs a).length c3).ownBlock=some k→¬ k=w.heap.size):=LH (fun k hk e=>by
  have h1:=(gE HZ.out).1
  have h2:=(hoz.lt k hk).1
  omega)
 have HFY:Hid (∀ k,(Value.slice A3 (szs a).length c3).ownBlock=some k→w.heap.size≤k):=LH (fun k hk=>by
  have h1:=(gE HZ.out).1
  have h2:=(hoz.lt k hk).1
  omega)
 replace H:=LH (H.out.grow (hg.grow hg6))
 have hszl:=(zN HF.out).2.1
 clear hg hoz hg6 HZ HG
 go_wp2_with fail
 refine (zQC session 8 _ HS01.out.1 HS01.out.2 (Nat.le_refl _)).mono ?_
 rintro e w3 ⟨A4,c4,rfl,hg,hob⟩
 rw [show (w2.alloc (.cells #[.int .u64 session,.slice A3 (szs a).length c3,.int .u32 0] 40)).heap.size=w2.heap.size+1 from by simp] at hob
 replace HM:=LH (HM.out.later hg)
 replace H:=LH (H.out.grow hg)
 have HB:=LH hob
 clear hg hob
 go_wp2_with fail
 go_loopw [7,8,9] (fun vo v v9 wr=>∃ i:Nat,i≤(szs a).length∧v=.int .i64 i∧∃ A5 c5 n,vo=.slice A5 n c5∧Hid (n=(putB session 8++zB ((szs a).take i)).length∧Keep (fun j=>w2.heap.size<j) w3 wr∧wr.ownsRow (w2.heap.size+1) 5 1 (.slice A5 n c5) n (u8s (putB session 8++zB ((szs a).take i))))) (fun _ v _ _=>(szs a).length-(intOf v).toNat)
 case atStart=>exact ⟨0,by omega,rfl,A4,c4,_,rfl,by simp [zB],Keep.refl _ _,by simpa [zB] using HB.out⟩
 case round =>
  obtain ⟨i,hi,rfl,A5,c5,n5,rfl,HS5⟩:=hrel
  have HM5:=LH (HM.out.keep HS5.out.2.1)
  obtain ⟨m0,m1,m2,mf⟩:=zI HM5.out.m
  have hn5:=HS5.out.1
  rw [List.length_append,zX,zjE,List.length_take,Nat.min_eq_left hi] at hn5
  have hn9:n5≤1000:=by omega
  by_cases hlt:i<(szs a).length
  ·have hw:IntKind.i64.wrap ((i:Int)+1)=(i:Int)+1:=IntWalk.i64_in _ (by omega)
   have hlt':(i:Int)<(szs a).length:=by omega
   obtain ⟨ad2,rfl,q2⟩:=SliceR.int_at (k:=.i64) HM5.out.s.now i hlt
   obtain ⟨hz1,hz2,hznn,hzs⟩:=zN HF.out
   have hx0:=hznn _ (List.getElem_mem hlt)
   have hx1:=zpB hznn i hlt
   have hx2:=zx hznn i
   have hx3:0≤((szs a).take i).sum:=by
    have:=zx (l:=(szs a).take i) (fun x hx=>hznn x (List.mem_of_mem_take hx)) 0
    simpa using this
   have hx4:(szs a)[i]≤4096:=by omega
   have E1:Hid (u8s (putB session 8++zB ((szs a).take (i+1)))=u8s (putB session 8++zB ((szs a).take i))++u8s (putB (szs a)[i] 2)):=LH (by
    rw [List.take_succ_eq_append_getElem hlt,zxK,← List.append_assoc,zRE])
   have E2:Hid (n5+2=(putB session 8++zB ((szs a).take (i+1))).length):=LH (by
    rw [List.length_append,zX,zjE,List.length_take,Nat.min_eq_left hlt];omega)
   clear hz1 hz2 hznn hzs hx1 hx2 hx3 hn5
   go_wp2_with fail
   refine (zQC (szs a)[i] 2 wr hx0 (by omega) (by omega)).mono ?_
   rintro e w5 ⟨A6,c6,rfl,hg,ho⟩
   rw [zX] at ho ⊢
   have HK5:=LH (HS5.out.2.1.grow hg)
   have HO5:=LH (zE HS5.out.2.2 hg (fun _ _ h=>h))
   have HO6:=LH (SliceR.of_own ho)
   have HSZ:Hid (w2.heap.size+1≤w5.heap.size):=LH (by have:=(gE (HM5.out.later hg).m).1;omega)
   clear hg ho
   go_wp2_with (at_builtin;refine zL _ rfl _ _ 23 23 rfl (w2.heap.size+1) 5 (.int .u8 0) 1 1 zW zy rfl (.slice A5 n5 c5) n5 (u8s (putB session 8++zB ((szs a).take i))) rfl (.slice A6 2 c6) 2 (u8s (putB (szs a)[i] 2)) rfl ?_ (by exact HO5.out) (by exact SliceR.src HO6.out zW (zHB _)) (by simp only [maxLen];omega) (by omega) (by exact HSZ.out);intro v7 w7 hap;refine Hid.out ?_)
   refine LH ?_
   have HK7:=LH (HK5.out.grown hap.grew (fun k hk=>.inl (by have:=(HO5.out.lt k hk).1;omega)))
   have Ho7:=LH hap.own
   obtain ⟨A7,c7,rfl,_⟩:=zJ hap.own
   clear hap m0 m1 m2 mf
   rw [← E1.out] at Ho7
   go_wp2
   go_roundw
   case rel=>exact ⟨i+1,by omega,by go_num,A7,c7,_,rfl,E2.out,HK7.out,Ho7.out⟩
   case measure=>simp [intOf];omega
  ·obtain rfl:i=(szs a).length:=by omega
   have hlt':¬ (((szs a).length:Int)<(szs a).length):=by omega
   rw [List.take_length] at HS5
   have HH:=LH (HR0.out.grow HM5.out.grow)
   clear hn5 hszl
   go_wp2_with fail
   clear m0 m1 m2 mf
   refine (zuC a HO.out HFL.out A c wr HH.out).mono ?_
   rintro e w6 ⟨A8,c8,rfl,hg,ho8⟩
   have HK6:=LH (HS5.out.2.1.grow hg)
   have HO6:=LH (zE HS5.out.2.2 hg (fun _ _ h=>h))
   have HO8:=LH (SliceR.of_own ho8)
   have HSZ:Hid (w2.heap.size+1≤w6.heap.size):=LH (by have:=(gE (HM5.out.later hg).m).1;omega)
   have hrl:(rB a.flatten).length≤8000000:=by rw [zKB];have:=HFL.out;omega
   clear hg ho8
   go_wp2_with (at_builtin;refine zL _ rfl _ _ 23 23 rfl (w2.heap.size+1) 5 (.int .u8 0) 1 1 zW zy rfl (.slice A5 n5 c5) n5 (u8s (putB session 8++zB (szs a))) rfl (.slice A8 (rB a.flatten).length c8) (rB a.flatten).length (u8s (rB a.flatten)) rfl ?_ (by exact HO6.out) (by exact SliceR.src HO8.out zW (zHB _)) (by simp only [maxLen];omega) (by omega) (by exact HSZ.out);intro v7 w7 hap;refine Hid.out ?_)
   refine LH ?_
   have HK7:=LH (HK6.out.grown hap.grew (fun k hk=>.inl (by have:=(HO6.out.lt k hk).1;omega)))
   have hown:=hap.own
   rw [← zRE,← EM.out,show n5+(rB a.flatten).length=(maniB session a).length from by rw [EM.out,List.length_append,← HS5.out.1]] at hown
   obtain ⟨A7,c7,rfl,_⟩:=zJ hown
   have Ho7:=LH (SliceR.of_own hown)
   have hml:(maniB session a).length≤1000000000:=by rw [EM.out,List.length_append,← HS5.out.1];omega
   have hmi:∀ c∈maniB session a,0≤c∧c≤255:=by
    rw [EM.out]
    intro x hx
    rcases List.mem_append.1 hx with hx | hx
    ·rcases List.mem_append.1 hx with hx | hx
     ·exact zuA _ _ x hx
     ·exact zB_in _ x hx
    ·exact rB_in _ x hx
   have HMI:=LH hmi
   have HM7:=LH (HM.out.keep HK7.out)
   clear hap hown hmi
   go_wp2_with fail
   refine (zlH (maniB session a) hml HMI.out A7 c7 w7 Ho7.out).mono ?_
   rintro e w8 ⟨rfl,rfl⟩
   have E9:Hid (moreN 0 (maniB session a)=sumP session a):=LH rfl
   rw [E9.out]
   obtain ⟨sm,HSM⟩:∃ sm,Hid (sumP session a=sm):=⟨_,LH rfl⟩
   rw [HSM.out]
   obtain ⟨m0,m1,m2,mf⟩:=zI HM7.out.m
   have hlo:=HM7.out.lo
   have hW1m:(w7.setCell ⟨w2.heap.size,2,none⟩ (.int .u32 (sm:Nat))).heap[w2.heap.size]? = some (.cells #[.int .u64 session,.slice A3 (szs a).length c3,.int .u32 (sm:Nat)] 40 (0,0)):=by
    have h0:=HM7.out.m
    simp only [World.setCell,Array.getElem?_modify]
    simp [h0]
   have hk1:Keep (fun j=>j=w2.heap.size) w7 (w7.setCell ⟨w2.heap.size,2,none⟩ (.int .u32 (sm:Nat))):=(Keep.refl (fun j=>j=w2.heap.size) w7).setCell (p:=⟨w2.heap.size,2,none⟩) (.inl rfl) _
   have hW1z:=(hk1.block w.heap.size (gE HM7.out.z).1 (by omega)).trans HM7.out.z
   have hW1g:Grow w (w7.setCell ⟨w2.heap.size,2,none⟩ (.int .u32 (sm:Nat))):=HM7.out.grow.setCell (p:=⟨w2.heap.size,2,none⟩) (.inr (by show w.heap.size≤w2.heap.size;omega)) _
   have hW1s:=HM7.out.s.keep hk1 (fun k hk e=>by have:=HM7.out.hF k hk;omega)
   obtain ⟨x0,x1,x2,xf⟩:=zI hW1m
   obtain ⟨y0,y1,y2,yf⟩:=zI hW1z
   obtain ⟨hs3,hg3⟩:=zNE (.int .u64 session) (.slice A3 (szs a).length c3) (.int .u32 (sm:Nat)) hW1g (Nat.le_refl _) hW1z
   have hk3:Keep (fun j=>j=w.heap.size) (w7.setCell ⟨w2.heap.size,2,none⟩ (.int .u32 (sm:Nat))) ((((w7.setCell ⟨w2.heap.size,2,none⟩ (.int .u32 (sm:Nat))).setCell ⟨w.heap.size,0,none⟩ (.int .u64 session)).setCell ⟨w.heap.size,1,none⟩ (.slice A3 (szs a).length c3)).setCell ⟨w.heap.size,2,none⟩ (.int .u32 (sm:Nat))) :=
    ((((Keep.refl (fun j=>j=w.heap.size) _).setCell (p:=⟨w.heap.size,0,none⟩) (.inl rfl) _).setCell (p:=⟨w.heap.size,1,none⟩) (.inl rfl) _).setCell (p:=⟨w.heap.size,2,none⟩) (.inl rfl) _)
   have HFIN:Hid (ROfPost session a w (.returned (.tuple #[.agg #[.int .u64 session,.slice A3 (szs a).length c3,.int .u32 (sm:Nat)],.int .i64 0])) ((((w7.setCell ⟨w2.heap.size,2,none⟩ (.int .u32 (sm:Nat))).setCell ⟨w.heap.size,0,none⟩ (.int .u64 session)).setCell ⟨w.heap.size,1,none⟩ (.slice A3 (szs a).length c3)).setCell ⟨w.heap.size,2,none⟩ (.int .u32 (sm:Nat)))) :=
    LH ⟨A3,c3,by rw [HSM.out],hg3,(hW1s.keep hk3 (fun k hk e=>HFZ.out k hk e)).now,_,hW1s.keep hk3 (fun k hk e=>HFZ.out k hk e),HFY.out⟩
   have HS3:=LH hs3
   clear hW1m hk1 hW1z hW1g hW1s hs3 hg3 hk3 hlo
   go_wp2
   revert HS3 HFIN
   generalize ((((w7.setCell ⟨w2.heap.size,2,none⟩ (.int .u32 (sm:Nat))).setCell ⟨w.heap.size,0,none⟩ (.int .u64 session)).setCell ⟨w.heap.size,1,none⟩ (.slice A3 (szs a).length c3)).setCell ⟨w.heap.size,2,none⟩ (.int .u32 (sm:Nat)))=w9
   intro HFIN HS3
   obtain ⟨y0,y1,y2,yf⟩:=zI HS3.out
   refine bodyPost_ret (v:=.tuple #[.agg #[.int .u64 session,.slice A3 (szs a).length c3,.int .u32 (sm:Nat)],.int .i64 0]) ?_ rfl HFIN.out
   rw [results_cell_tmp rfl];go_simp
theorem zvC (session sum:Int) (l:List Int) (A:Option Addr) (c:Nat) (w:World) (h:SliceR 1 (.slice A l.length c) l.length (ints l) w) (hf:fitsB l=true) :
    Calls Tryz.prog 83 #[.agg #[.int .u64 session,.slice A l.length c,.int .u32 sum]] w fun e w'=>e=.returned (.bool true)∧Grow w w':=by
 have hga:=(Keep.refl NoB w).alloc (.cells #[.int .u64 session,.slice A l.length c,.int .u32 sum] 40)
 have HG:=LH hga
 have HR:=LH (zyD A c l _ (h.grow hga) hf)
 clear h hf hga
 go_enter Tryz.func83,Tryz.ntmps83
 go_wp2_with fail
 refine HR.out.mono ?_
 rintro e w1 ⟨rfl,rfl⟩
 go_wp2
 go_ret
 exact ⟨rfl,HG.out⟩
theorem zxE (session sum:Int) (l:List Int) (A:Option Addr) (c:Nat) (w:World) (h:SliceR 1 (.slice A l.length c) l.length (ints l) w) (hf:fitsB l=true) :
    Calls Tryz.prog 46 #[.agg #[.int .u64 session,.slice A l.length c,.int .u32 sum]] w fun e w'=>e=.returned (.int .i64 l.sum)∧Grow w w':=by
 have hga:=(Keep.refl NoB w).alloc (.cells #[.int .u64 session,.slice A l.length c,.int .u32 sum] 40)
 have HG:=LH hga
 have HH:=LH (h.grow hga)
 have HC:=LH (heap_alloc_new w (.cells #[.int .u64 session,.slice A l.length c,.int .u32 sum] 40))
 have HF:=LH hf
 obtain ⟨m0,m1,m2,mf⟩:=zI HC.out
 clear h hf hga
 go_enter Tryz.func46,Tryz.ntmps46
 go_wp2_with fail
 refine (zvC session sum l A c _ HH.out HF.out).mono ?_
 rintro e w1 ⟨rfl,hg⟩
 replace HG:=LH (HG.out.grow hg)
 replace HH:=LH (HH.out.grow hg)
 replace HC:=LH (Grow.heap hg HC.out)
 clear hg m0 m1 m2 mf
 go_wp2_with fail
 go_loopw [3,4] (fun vn v wr=>wr=w1∧∃ (k:Nat) (s:Int),k≤l.length∧v=.int .i64 k∧vn=.int .i64 s∧Hid (s=(l.take k).sum)∧0≤s∧s≤4096) (fun _ v _=>l.length-(intOf v).toNat)
 case atStart=>exact ⟨rfl,0,0,by omega,rfl,rfl,LH (by simp),by omega,by omega⟩
 case round =>
  obtain ⟨rfl,k,s,hk,rfl,rfl,HS,hs0,hs1⟩:=hrel
  obtain ⟨m0,m1,m2,mf⟩:=zI HC.out
  obtain ⟨hl1,hl2,hnn,hsum⟩:=zN HF.out
  by_cases hlt:k<l.length
  ·obtain ⟨ad2,rfl,q1⟩:=SliceR.int_at (k:=.i64) HH.out k hlt
   have hw:IntKind.i64.wrap ((k:Int)+1)=(k:Int)+1:=IntWalk.i64_in _ (by omega)
   have hlt':(k:Int)<l.length:=by omega
   have hsu:=zFA hlt
   have hle:=zpB hnn k hlt
   have hn0:0≤l[k]:=hnn _ (List.getElem_mem hlt)
   have hs9:=HS.out
   have hw3:IntKind.i64.wrap (s+l[k])=s+l[k]:=IntWalk.i64_in _ (by omega)
   have HR:Hid (s+l[k]=(l.take (k+1)).sum∧0≤s+l[k]∧s+l[k]≤4096):=LH ⟨by omega,by omega,by omega⟩
   clear hsu hle hs9 hnn
   go_wp2
   go_roundw
   case rel=>exact ⟨trivial,k+1,s+l[k],by omega,by go_num,rfl,LH HR.out.1,HR.out.2.1,HR.out.2.2⟩
   case measure=>simp [intOf];omega
  ·obtain rfl:k=l.length:=by omega
   have hlt':¬ ((l.length:Int)<l.length):=by omega
   have HE:Hid (s=l.sum):=LH (by rw [HS.out,List.take_length])
   clear hnn
   go_wp2
   go_ret
   exact ⟨by rw [HE.out];rfl,HG.out⟩
theorem zSE (session sum:Int) (l:List Int) (A:Option Addr) (c:Nat) (w:World) (h:SliceR 1 (.slice A l.length c) l.length (ints l) w) (hf:fitsB l=true) :
    Calls Tryz.prog 30 #[.agg #[.int .u64 session,.slice A l.length c,.int .u32 sum]] w fun e w'=>e=.returned (.int .i64 (chunksN l:Nat))∧Grow w w':=by
 have hga:=(Keep.refl NoB w).alloc (.cells #[.int .u64 session,.slice A l.length c,.int .u32 sum] 40)
 have HG:=LH hga
 have HR:=LH (zxE session sum l A c _ (h.grow hga) hf)
 obtain ⟨hl1,hl2,hnn,hsum⟩:=zN hf
 have hs0:0≤l.sum:=by
  have:=zx hnn 0
  simpa using this
 have hw:IntKind.i64.wrap (l.sum+7)=l.sum+7:=IntWalk.i64_in _ (by omega)
 have HE:Hid ((l.sum+7)/8=(chunksN l:Nat)):=LH (by unfold chunksN;omega)
 have hp:0≤l.sum+7:=by omega
 clear h hf hga hnn
 generalize l.sum=S at *
 go_enter Tryz.func30,Tryz.ntmps30
 go_wp2_with fail
 refine HR.out.mono ?_
 rintro e w1 ⟨rfl,hg⟩
 replace HG:=LH (HG.out.grow hg)
 clear hg
 go_wp2
 go_ret
 exact ⟨by rw [HE.out];rfl,HG.out⟩
end Go.Proofs.YtfkcpaahdlkcdaaGreat
namespace Go.Proofs.YtfkcpaahdlkcdaaGreat
open Go.RowKit
section
variable {P:Program} {ops:Array Oper} {Q:Exit→Act→World→Prop} {ds:List Nat} {S:Nat→Prop} {R:Act→World→Prop} {acts reads:List Nat} {rest:List Nat} {i:Nat} {o:Oper} {a:Act} {w:World}
theorem zAA {N:Option Tmp} {f:FuncId} {fn:Func} {xs:Array Operand} {ts:Array TypeId} (hl:ops.toList[i]? = some o) (ha:acts.contains i=true) (hN:o.dst=N) (hg:Region.wanted o (yielded ops a.tmps)=true)
    (hop : o.op = .call { callee := .value (.func f), args := xs, argTypes := ts }) (hf : P.funcs[f]? = some fn) (hname : (fn.name == "runtime.NumGoroutine") = false) (hb : fn.body.isSome = true) (args : List Value) (hargs : xs.toList.map a.eval = args)
    (h:Calls P f args.toArray w fun e w'=>∃ v,e=.returned v∧(i∉ds→Keep S w w')∧wpOrdC S P ops Q R acts reads ds rest (a.put N v) w'):wpOrdC S P ops Q R acts reads ds (i :: rest) a w:=by
 refine zrA hl ha (fun K hK=>?_)
 rw [if_pos hg]
 subst hN
 unfold Oper.wp
 have h1 : fn.name ≠ "runtime.NumGoroutine" := by simpa using hname
 obtain ⟨c,hc⟩:=Option.isSome_iff_exists.1 hb
 have hcall:(callFunc f args.toArray).run P w=.ok (.enter f args.toArray) w:=by simp [callFunc,hf,h1,hc]
 have he:(execOp a.eval o).run P w=.ok (.enter f args.toArray) w:=by
  unfold execOp
  have hx:xs.map a.eval=args.toArray:=by rw [← hargs];apply Array.ext';simp
  rw [hop]
  simp [resolve,Deferred.ofValue,invoke,Act.eval,hx,hcall]
 rw [he,Oper.upon_enter]
 refine h.mono fun e w'' hh=>?_
 obtain ⟨v,rfl,h1,h2⟩:=hh
 exact hK _ _ ⟨h1,h2⟩
end
end Go.Proofs.YtfkcpaahdlkcdaaGreat
namespace Go.Proofs.YtfkcpaahdlkcdaaGreat
open Go.RowKit
section
variable {P:Program} {ops:Array Oper} {Q:Exit→Act→World→Prop} {ds:List Nat} {S:Nat→Prop} {R:Act→World→Prop} {acts reads:List Nat} {rest:List Nat} {i:Nat} {o:Oper} {a:Act} {w:World}
theorem zfD {N:Option Tmp} (hl:ops.toList[i]? = some o) (ha:acts.contains i=true) (hN:o.dst=N) (hg:o.guard=none) (l c:Operand) (t:TypeId) (hop:o.op=Op.makeSlice t l c)
    (base:Nat) (e:TypeId) (z:Value) (size bytes:Nat) (h1:P.underlying t=some (.slice e)) (h2:(P.info? e).map (fun i=>(i.zero,i.size,i.bytes))=some (some z,size,bytes))
    (kl kc:IntKind) (L C:Int) (n:Nat) (hl':a.eval l=.int kl L) (hc':a.eval c=.int kc C) (hL:L=(n:Int)) (hC:C=(n:Int)) (b2:bytes*n≤281474976710656) (b3:n≤maxLen) (b4:base≤w.heap.size)
    (h:∀ w',w'.ownsRow base e size (.slice (some ⟨w.heap.size,0,none⟩) n n) n (madeCells z.cells (n*size)).toList→w.grownBy w' none→(i∉ds→Keep S w w')∧wpOrdC S P ops Q R acts reads ds rest (a.put N (.slice (some ⟨w.heap.size,0,none⟩) n n)) w') :
    wpOrdC S P ops Q R acts reads ds (i :: rest) a w:=by
 obtain ⟨ti,hi,q1,q2,q3⟩:=info_parts h2
 obtain ⟨w',hrun,r1,r2⟩:=run_make_full (P:=P) w base t e ti z size h1 hi q1 q2 kl kc n (by rw [q3];exact b2) b3 b4
 subst hL
 subst hC
 refine zrA hl ha (fun K hK=>?_)
 rw [if_pos (by simp [Region.wanted,hg])]
 subst hN
 unfold Oper.wp
 simp [execOp,hop,hl',hc',hrun,Result.andThen]
 exact hK _ _ (h w' r1 r2)
end
theorem RowsR.foot {k:IntKind} {a:List (List Int)} {v:Value} {w:World} (h:RowsR k a v w):Foot (RowsR k a v) w (fun j=>j<w.heap.size):=by
 refine ⟨fun j hj=>hj,fun W' hW=>?_⟩
 obtain ⟨A,c,rfl,hr⟩:=h
 have hcell:∀ p u,w.cell? p=some u→W'.cell? p=some u:=fun p u hc=>(World.cell?_of_block (w:=w) (hW p.block (World.block_lt_of_cell? _ _ hc))).trans hc
 refine ⟨A,c,rfl,fun i hi=>?_⟩
 obtain ⟨ad,A',c',e1,e2,e3⟩:=hr i hi
 refine ⟨ad,A',c',e1,hcell _ _ e2,?_⟩
 obtain ⟨A9,c9,f1,f2,f3,f4,f5⟩:=e3
 exact ⟨A9,c9,f1,f2,f3,f4,fun j u hu=>by obtain ⟨ad2,g1,g2⟩:=f5 j u hu;exact ⟨ad2,g1,hcell _ _ g2⟩⟩
theorem zGK {a:List (List Int)} (i:Nat) (hi:i<chunksN (szs a)):64*i<(rB a.flatten).length:=by
 rw [zKB]
 have:=zKD a
 unfold chunksN at hi
 omega
end Go.Proofs.YtfkcpaahdlkcdaaGreat
namespace Go.Proofs.YtfkcpaahdlkcdaaGreat
open Go.RowKit
theorem zxF (m:Nat):(madeCells (Value.int .u64 0).cells (m*1)).toList=u64s (List.replicate m 0):=by
 apply List.ext_getElem (by simp [u64s,madeCells,Value.cells])
 intro j h1 h2
 simp [u64s,madeCells,Value.cells,Nat.mod_one]
theorem zwC {session:Int} {sum:Nat} {l:List Int} {w wz:World} {As Ak:Option Addr} {cs ck n bw:Nat} {FS:Nat→Prop} (h01:0≤session∧session≤18446744073709551615) (hsum:sum<4294967296) (hf:fitsB l=true) (hn:l.sum=(n:Int))
    (hg:Grow w wz) (hs:Foot (SliceR 1 (.slice As l.length cs) l.length (ints l)) wz FS) (hsk:∀ k,FS k→w.heap.size≤k∧k≠bw)
    (hw:wz.ownsRow 0 22 1 (.slice (some ⟨bw,0,none⟩) n n) n (u64s (List.replicate n 0))) (hwb:w.heap.size≤bw)
    (hk:wz.ownsRow 0 5 1 (.slice Ak (makeB (chunksN l)).length ck) (makeB (chunksN l)).length (u8s (makeB (chunksN l)))) (hkk:∀ k,(Value.slice Ak (makeB (chunksN l)).length ck).ownBlock=some k→w.heap.size≤k∧k≠bw) :
    ∃ p G,Grow w (wz.alloc (.cells #[.int .u64 session,.slice As l.length cs,.int .u32 (sum:Nat),.slice As l.length cs,.slice (some ⟨bw,0,none⟩) n n,.slice Ak (makeB (chunksN l)).length ck] 247)) ∧
     PAt wz.heap.size p ⟨session,l,sum,List.replicate n 0,makeB (chunksN l)⟩ G (wz.alloc (.cells #[.int .u64 session,.slice As l.length cs,.int .u32 (sum:Nat),.slice As l.length cs,.slice (some ⟨bw,0,none⟩) n n,.slice Ak (makeB (chunksN l)).length ck] 247))∧w.heap.size≤wz.heap.size∧w.heap.size≤p.wb∧∀ k,G k→w.heap.size≤k:=by
 have hga:=(Keep.refl NoB wz).alloc (.cells #[.int .u64 session,.slice As l.length cs,.int .u32 (sum:Nat),.slice As l.length cs,.slice (some ⟨bw,0,none⟩) n n,.slice Ak (makeB (chunksN l)).length ck] 247)
 have hcell:=heap_alloc_new wz (.cells #[.int .u64 session,.slice As l.length cs,.int .u32 (sum:Nat),.slice As l.length cs,.slice (some ⟨bw,0,none⟩) n n,.slice Ak (makeB (chunksN l)).length ck] 247)
 have hbl:=(hw.lt bw rfl).2
 refine ⟨⟨As,cs,bw,n,Ak,ck⟩,fun k=>FS k∨(Value.slice Ak (makeB (chunksN l)).length ck).ownBlock=some k,hg.grow hga,⟨?_,?_,(hs.grow hga).and ((Foot.of_own hk).grow hga),⟨?_,?_,?_⟩,?_⟩,hg.size,hwb,?_⟩
 ·simpa using hcell
 ·have:=zE hw hga (fun _ _ h=>h)
  simpa using this
 ·show wz.heap.size≠bw
  omega
 ·rintro (h | h)
  ·have:=hs.lt h;omega
  ·have:=(hk.lt _ h).2;omega
 ·rintro (h | h)
  ·exact (hsk _ h).2 rfl
  ·exact (hkk _ h).2 rfl
 ·exact ⟨h01.1,h01.2,hsum,hf,by show ((List.replicate n (0:Int)).length:Int)=_;rw [List.length_replicate];exact hn.symm,fun x hx=>by rw [List.eq_of_mem_replicate hx];decide,OkB.make _,zNB _⟩
 ·rintro k (h | h)
  ·exact (hsk k h).1
  ·exact (hkk k h).1
theorem zgD {base e size n:Nat} {v:Value} {xs:List Value} {w:World} (h:w.ownsRow base e size v n xs):w.ownsRow 0 e size v n xs:=zCI h
theorem znH (session:Int) (sum:Nat) (h01:0≤session∧session≤18446744073709551615) (hsum:sum<4294967296) (A:Option Addr) (c:Nat) (l:List Int) (hf:fitsB l=true) (n:Nat) (hn:l.sum=(n:Int)) (w:World) (h:SliceR 1 (.slice A l.length c) l.length (ints l) w) :
    Calls Tryz.prog 166 #[.agg #[.int .u64 session,.slice A l.length c,.int .u32 (sum:Nat)]] w fun e w'=>∃ b p G,e=.returned (.tuple #[.pointer (some ⟨b,0,none⟩),.int .u16 0])∧Grow w w'∧PAt b p ⟨session,l,sum,List.replicate n 0,makeB (chunksN l)⟩ G w'∧w.heap.size≤b∧w.heap.size≤p.wb∧∀ k,G k→w.heap.size≤k:=by
 have HG:=LH ((Keep.refl NoB w).alloc (.cells #[.int .u64 session,.slice A l.length c,.int .u32 (sum:Nat)] 40))
 have HH:=LH (h.grow HG.out)
 have HC:=LH (heap_alloc_new w (.cells #[.int .u64 session,.slice A l.length c,.int .u32 (sum:Nat)] 40))
 have HF:=LH hf
 have HS01:=LH h01
 have HSUM:=LH hsum
 have HN:=LH hn
 obtain ⟨hl1,hl2,hnn,hs9⟩:=zN hf
 have hn9:n≤4096:=by omega
 have hq9:chunksN l≤512:=by unfold chunksN;omega
 obtain ⟨m0,m1,m2,mf⟩:=zI HC.out
 clear h hf hnn hn h01 hsum
 go_enter Tryz.func166,Tryz.ntmps166
 go_wp2_with fail
 refine (zmC session sum A c l _ HH.out HF.out).mono ?_
 rintro e w1 ⟨rfl,hg⟩
 replace HG:=LH (HG.out.grow hg)
 replace HH:=LH (HH.out.grow hg)
 replace HC:=LH (Grow.heap hg HC.out)
 clear hg m0 m1 m2 mf
 obtain ⟨m0,m1,m2,mf⟩:=zI HC.out
 go_wp2_with fail
 refine (zDA (.slice A l.length c) l w1 HH.out (by omega)).mono ?_
 rintro e w2 ⟨A3,c3,rfl,hos,hg⟩
 have hc2:=Grow.heap hg HC.out
 have hlt2:=(gE HC.out).1
 have hc3:(w2.setCell ⟨w.heap.size,1,none⟩ (.slice A3 l.length c3)).heap[w.heap.size]? = some (.cells #[.int .u64 session,.slice A3 l.length c3,.int .u32 (sum:Nat)] 40 (0,0)):=by
  simp only [World.setCell,Array.getElem?_modify]
  simp [hc2]
 have hk3:Keep (fun k=>k=w.heap.size) w2 (w2.setCell ⟨w.heap.size,1,none⟩ (.slice A3 l.length c3)):=(Keep.refl (fun k=>k=w.heap.size) w2).setCell (p:=⟨w.heap.size,1,none⟩) (.inl rfl) _
 have HSO:=LH (zE hos hk3 (fun k hk e=>by have h1:=(hos.lt k hk).1;have e2:k=w.heap.size:=e;omega))
 have HG3:=LH ((HG.out.grow hg).setCell (p:=⟨w.heap.size,1,none⟩) (.inr (Nat.le_refl _)) (.slice A3 l.length c3))
 obtain ⟨n0,n1,n2,nf⟩:=zI hc2
 have HC3:=LH hc3
 have hws:(w2.setCell ⟨w.heap.size,1,none⟩ (.slice A3 l.length c3)).heap.size=w2.heap.size:=World.size_setCell _ _ _
 have HW1:Hid (w.heap.size≤w1.heap.size):=LH HG.out.size
 clear m0 m1 m2 mf hg hos hc2 hc3 hk3 hlt2 HG
 go_wp2
 clear n0 n1 n2 nf
 revert HSO HG3 HC3 hws
 generalize w2.setCell ⟨w.heap.size,1,none⟩ (.slice A3 l.length c3)=w3
 intro HSO HG3 HC3 hws
 obtain ⟨m0,m1,m2,mf⟩:=zI HC3.out
 have HSL:=LH (SliceR.of_own HSO.out)
 have HCW:=LH (zPA session sum A3 c3 l w3.drew (HSL.out.grow (Keep.refl NoB w3).drew) HF.out)
 rw [HN.out] at HCW
 refine zJC NoB [0,1,2,3,6,4] [4] [0,2,3,6] [] #[true,true,true,true,true,false,true,false,false,false,false,false,false,false] 8 rfl (by kernel_rfl) ?_
 refine ord_r (y:=by intro w' hg;have q0:=hg.cell m0 (fun h=>h);have q1:=hg.cell m1 (fun h=>h);have q2:=hg.cell m2 (fun h=>h);go_simp;with_reducible rfl) (z:=?_)
 refine ord_p ?_
 refine ord_r (y:=by intro w' hg;have q0:=hg.cell m0 (fun h=>h);have q1:=hg.cell m1 (fun h=>h);have q2:=hg.cell m2 (fun h=>h);go_simp;with_reducible rfl) (z:=?_)
 refine ord_r (y:=by intro w' hg;have q0:=hg.cell m0 (fun h=>h);have q1:=hg.cell m1 (fun h=>h);have q2:=hg.cell m2 (fun h=>h);go_simp;with_reducible rfl) (z:=?_)
 refine ord_r (y:=by intro w' hg;have q0:=hg.cell m0 (fun h=>h);have q1:=hg.cell m1 (fun h=>h);have q2:=hg.cell m2 (fun h=>h);go_simp;with_reducible rfl) (z:=?_)
 refine zG rfl rfl rfl rfl rfl Tryz.func102 rfl rfl [.agg #[.int .u64 session,.slice A3 l.length c3,.int .u32 (sum:Nat)]] rfl ?_
 refine HCW.out.mono ?_
 rintro e wW ⟨rfl,hgW⟩
 refine ⟨_,rfl,fun _=>hgW,?_⟩
 simp only [Act.put,pB,pC,pD]
 have hgW2:=(Keep.refl NoB w3).drew.grow hgW
 have hwd:w3.drew.heap.size=w3.heap.size:=rfl
 clear m0 m1 m2 mf
 refine zF ?_
 refine zRB 5 7 #[true,true,true,true,true,true,true,false,false,false,false,false,false,false] #[true,true,true,true,true,false,true,true,false,false,false,false,false,false] (by kernel_rfl) ?_ ?_
 ·
  refine zfD rfl rfl rfl rfl _ _ _ rfl 0 22 (.int .u64 0) 1 8 zBA ze .i64 .i64 _ _ n rfl rfl (by rfl) (by rfl) (by omega) (by simp only [maxLen];omega) (Nat.zero_le _) ?_
  intro wM hownM hgrM
  have hgM:Grow wW wM:=(Keep.refl NoB wW).grown hgrM (by simp)
  refine ⟨fun _=>hgM,?_⟩
  rw [zxF] at hownM
  refine zF ?_
  refine zqA [7,8,9,10,11,12,13] [7,8,11,12,13] [] (by kernel_rfl) ?_
  have hcc:=zd session sum A3 c3 l wM (HSL.out.grow (hgW2.grow hgM)) HF.out
  refine zG rfl rfl rfl rfl rfl Tryz.func64 rfl rfl [.agg #[.int .u64 session,.slice A3 l.length c3,.int .u32 (sum:Nat)]] rfl ?_
  refine hcc.mono ?_
  rintro e wC ⟨rfl,hgC⟩
  refine ⟨_,rfl,fun _=>hgC,?_⟩
  simp only [Act.put,pB,pC,pD]
  have hbm:=zzB (chunksN l) (by omega) wC
  refine zG rfl rfl rfl rfl rfl Tryz.func66 rfl rfl [.int .i64 (chunksN l:Nat)] rfl ?_
  refine hbm.mono ?_
  rintro e wK ⟨A9,c9,rfl,hgK,hoK⟩
  refine ⟨_,rfl,fun _=>hgK,?_⟩
  simp only [Act.put,pB,pC,pD]
  iterate 2
   refine ord_p ?_
  refine zl rfl rfl rfl rfl ?_ ?_ ?_ ?_ ?_ ?_
  rotate_left 3
  ·go_simp;first | with_reducible rfl | (constructor <;> with_reducible rfl)
  ·simp only [Act.put,pB,pC,pD];rfl
  iterate 2
   refine ord_s ?_
  refine zF ?_
  have hlM:=(hownM.lt wW.heap.size rfl).2
  have s1:=HW1.out
  have s2:=HG3.out.size
  have s3:=hgW.size
  have s4:=hgC.size
  have s5:=hgK.size
  have s6:=hgM.size
  have hfin:=zwC (session:=session) (sum:=sum) HS01.out HSUM.out HF.out HN.out (HG3.out.grow (((hgW2.grow hgM).grow hgC).grow hgK)) ((Foot.of_own HSO.out).grow (((hgW2.grow hgM).grow hgC).grow hgK)) (fun k hk=>⟨by have:=(HSO.out.lt k hk).1;omega,by have:=(HSO.out.lt k hk).2;omega⟩) (zE hownM (hgC.grow hgK) (fun _ _ h=>h)) (by omega) (zgD hoK) (fun k hk=>⟨by have:=(hoK.lt k hk).1;omega,by have:=(hoK.lt k hk).1;omega⟩)
  have HFIN:=LH hfin
  clear hfin hlM s1 s2 s3 s4 s5 s6 hownM hgM hgC hgK hoK hgrM hgW hgW2 hwd hws
  go_wp2
  go_ret2
  obtain ⟨p,G,hgf,hP,hb1,hb2,hb3⟩:=HFIN.out
  exact ⟨_,p,G,rfl,hgf,hP,hb1,hb2,hb3⟩
 ·
  have hcc:=zd session sum A3 c3 l wW (HSL.out.grow (hgW2)) HF.out
  refine zG rfl rfl rfl rfl rfl Tryz.func64 rfl rfl [.agg #[.int .u64 session,.slice A3 l.length c3,.int .u32 (sum:Nat)]] rfl ?_
  refine hcc.mono ?_
  rintro e wC ⟨rfl,hgC⟩
  refine ⟨_,rfl,fun _=>hgC,?_⟩
  simp only [Act.put,pB,pC,pD]
  refine zF ?_
  refine zRB 5 8 #[true,true,true,true,true,true,true,true,false,false,false,false,false,false] #[true,true,true,true,true,false,true,true,true,false,false,false,false,false] (by kernel_rfl) ?_ ?_
  ·
   refine zfD rfl rfl rfl rfl _ _ _ rfl 0 22 (.int .u64 0) 1 8 zBA ze .i64 .i64 _ _ n rfl rfl (by rfl) (by rfl) (by omega) (by simp only [maxLen];omega) (Nat.zero_le _) ?_
   intro wM hownM hgrM
   have hgM:Grow wC wM:=(Keep.refl NoB wC).grown hgrM (by simp)
   refine ⟨fun _=>hgM,?_⟩
   rw [zxF] at hownM
   refine zF ?_
   refine zqA [8,9,10,11,12,13] [8,11,12,13] [] (by kernel_rfl) ?_
   have hbm:=zzB (chunksN l) (by omega) wM
   refine zG rfl rfl rfl rfl rfl Tryz.func66 rfl rfl [.int .i64 (chunksN l:Nat)] rfl ?_
   refine hbm.mono ?_
   rintro e wK ⟨A9,c9,rfl,hgK,hoK⟩
   refine ⟨_,rfl,fun _=>hgK,?_⟩
   simp only [Act.put,pB,pC,pD]
   iterate 2
    refine ord_p ?_
   refine zl rfl rfl rfl rfl ?_ ?_ ?_ ?_ ?_ ?_
   rotate_left 3
   ·go_simp;first | with_reducible rfl | (constructor <;> with_reducible rfl)
   ·simp only [Act.put,pB,pC,pD];rfl
   iterate 2
    refine ord_s ?_
   refine zF ?_
   have hlM:=(hownM.lt wC.heap.size rfl).2
   have s1:=HW1.out
   have s2:=HG3.out.size
   have s3:=hgW.size
   have s4:=hgC.size
   have s5:=hgK.size
   have s6:=hgM.size
   have hfin:=zwC (session:=session) (sum:=sum) HS01.out HSUM.out HF.out HN.out (HG3.out.grow (((hgW2.grow hgC).grow hgM).grow hgK)) ((Foot.of_own HSO.out).grow (((hgW2.grow hgC).grow hgM).grow hgK)) (fun k hk=>⟨by have:=(HSO.out.lt k hk).1;omega,by have:=(HSO.out.lt k hk).2;omega⟩) (zE hownM hgK (fun _ _ h=>h)) (by omega) (zgD hoK) (fun k hk=>⟨by have:=(hoK.lt k hk).1;omega,by have:=(hoK.lt k hk).1;omega⟩)
   have HFIN:=LH hfin
   clear hfin hlM s1 s2 s3 s4 s5 s6 hownM hgM hgC hgK hoK hgrM hgW hgW2 hwd hws
   go_wp2
   go_ret2
   obtain ⟨p,G,hgf,hP,hb1,hb2,hb3⟩:=HFIN.out
   exact ⟨_,p,G,rfl,hgf,hP,hb1,hb2,hb3⟩
  ·
   have hbm:=zzB (chunksN l) (by omega) wC
   refine zG rfl rfl rfl rfl rfl Tryz.func66 rfl rfl [.int .i64 (chunksN l:Nat)] rfl ?_
   refine hbm.mono ?_
   rintro e wK ⟨A9,c9,rfl,hgK,hoK⟩
   refine ⟨_,rfl,fun _=>hgK,?_⟩
   simp only [Act.put,pB,pC,pD]
   refine zF ?_
   refine zqA [5,9,10,11,12,13] [5,11,12,13] [] (by kernel_rfl) ?_
   refine zfD rfl rfl rfl rfl _ _ _ rfl 0 22 (.int .u64 0) 1 8 zBA ze .i64 .i64 _ _ n rfl rfl (by rfl) (by rfl) (by omega) (by simp only [maxLen];omega) (Nat.zero_le _) ?_
   intro wM hownM hgrM
   have hgM:Grow wK wM:=(Keep.refl NoB wK).grown hgrM (by simp)
   refine ⟨fun _=>hgM,?_⟩
   rw [zxF] at hownM
   iterate 2
    refine ord_p ?_
   refine zl rfl rfl rfl rfl ?_ ?_ ?_ ?_ ?_ ?_
   rotate_left 3
   ·go_simp;first | with_reducible rfl | (constructor <;> with_reducible rfl)
   ·simp only [Act.put,pB,pC,pD];rfl
   iterate 2
    refine ord_s ?_
   refine zF ?_
   have hlM:=(hownM.lt wK.heap.size rfl).2
   have s1:=HW1.out
   have s2:=HG3.out.size
   have s3:=hgW.size
   have s4:=hgC.size
   have s5:=hgK.size
   have s6:=hgM.size
   have hfin:=zwC (session:=session) (sum:=sum) HS01.out HSUM.out HF.out HN.out (HG3.out.grow (((hgW2.grow hgC).grow hgK).grow hgM)) ((Foot.of_own HSO.out).grow (((hgW2.grow hgC).grow hgK).grow hgM)) (fun k hk=>⟨by have:=(HSO.out.lt k hk).1;omega,by have:=(HSO.out.lt k hk).2;omega⟩) (zE hownM (Keep.refl NoB wM) (fun _ _ h=>h)) (by omega) (zE (zgD hoK) hgM (fun _ _ h=>h)) (fun k hk=>⟨by have:=(hoK.lt k hk).1;omega,by have:=(hoK.lt k hk).2;omega⟩)
   have HFIN:=LH hfin
   clear hfin hlM s1 s2 s3 s4 s5 s6 hownM hgM hgC hgK hoK hgrM hgW hgW2 hwd hws
   go_wp2
   go_ret2
   obtain ⟨p,G,hgf,hP,hb1,hb2,hb3⟩:=HFIN.out
   exact ⟨_,p,G,rfl,hgf,hP,hb1,hb2,hb3⟩
theorem zHK {b:Nat} {p:PP} {d:Par} {G:Nat→Prop} {w:World} (h:PAt b p d G w) (i:Nat) (hi:i<chunksN d.sz) (hgb:getB d.known i=true) (A:Option Addr) (n c:Nat) (hl:(n:Int)=sizeN d.sz i) :
    Calls Tryz.prog 106 #[.pointer (some ⟨b,0,none⟩),.int .i64 (i:Nat),.slice A n c] w fun e w'=>e=.returned (.bool true)∧Grow w w':=by
 obtain ⟨c0,c1,c2,c3,c4,c5,cf⟩:=zSA h.cell
 have hq:chunksN d.sz≤512:=by have:=zN h.ok.fit;unfold chunksN;omega
 have hi0:¬ ((i:Int)<0):=by omega
 have hi1:¬ ((chunksN d.sz:Int)≤(i:Int)):=by omega
 have hi2:decide (chunksN d.sz≤i)=false:=decide_eq_false (by omega)
 have hne:((n:Int) != sizeN d.sz i)=false:=by rw [hl];simp
 have HP:=LH h
 have HGB:=LH hgb
 have HI:=LH hi
 clear h hgb hi hl
 go_enter Tryz.func106,Tryz.ntmps106
 go_wp2_with fail
 refine (zd d.session d.sum p.As p.cs d.sz _ HP.out.ro.now.1 HP.out.ok.fit).mono ?_
 rintro e w1 ⟨rfl,hg⟩
 have HG:=LH hg
 replace HP:=LH (HP.out.grow hg)
 clear hg c0 c1 c2 c3 c4 c5 cf
 obtain ⟨c0,c1,c2,c3,c4,c5,cf⟩:=zSA HP.out.cell
 go_wp2_with fail
 refine (zUD d.session d.sum p.As p.cs d.sz _ HP.out.ro.now.1 HP.out.ok.fit i HI.out).mono ?_
 rintro e w2 ⟨rfl,hg⟩
 replace HG:=LH (HG.out.grow hg)
 replace HP:=LH (HP.out.grow hg)
 clear hg c0 c1 c2 c3 c4 c5 cf
 obtain ⟨c0,c1,c2,c3,c4,c5,cf⟩:=zSA HP.out.cell
 have hbg:=zvA p.Ak p.ck d.known HP.out.ok.known i (by omega) w2 HP.out.ro.now.2
 rw [HGB.out] at hbg
 have HBG:=LH hbg
 clear hbg
 go_wp2_with fail
 refine HBG.out.mono ?_
 rintro e w3 ⟨rfl,rfl⟩
 go_wp2
 go_ret
 exact ⟨rfl,HG.out⟩
theorem zpA {b:Nat} {p:PP} {d:Par} {G:Nat→Prop} {w:World} (h:PAt b p d G w) :
    Calls Tryz.prog 117 #[.pointer (some ⟨b,0,none⟩)] w fun e w'=>∃ A c,e=.returned (.slice A d.known.length c)∧Grow w w'∧w'.ownsRow w.heap.size 5 1 (.slice A d.known.length c) d.known.length (u8s d.known):=by
 obtain ⟨c0,c1,c2,c3,c4,c5,cf⟩:=zSA h.cell
 have hq:d.known.length≤1000:=by have:=zN h.ok.fit;rw [h.ok.klen];unfold chunksN;omega
 have HP:=LH h
 clear h
 go_enter Tryz.func117,Tryz.ntmps117
 go_wp2_with fail
 refine (ziB (.slice p.Ak d.known.length p.ck) d.known w HP.out.ro.now.2 (by omega)).mono ?_
 rintro e w1 ⟨A1,c1',rfl,ho,hg⟩
 go_wp2
 go_ret
 exact ⟨_,_,rfl,hg,ho⟩
theorem zkA {b:Nat} {p:PP} {d:Par} {G:Nat→Prop} {w:World} (h:PAt b p d G w) :
    Calls Tryz.prog 118 #[.pointer (some ⟨b,0,none⟩)] w fun e w'=>∃ A c,e=.returned (.agg #[.int .u64 d.session,.slice A d.sz.length c,.int .u32 (d.sum:Nat)])∧Grow w w'∧w'.ownsRow w.heap.size 3 1 (.slice A d.sz.length c) d.sz.length (ints d.sz):=by
 have hs:=zN h.ok.fit
 have hg0:=(Keep.refl NoB w).alloc (.cells #[.int .u64 0,.slice none 0 0,.int .u32 0] 40)
 have hz:=heap_alloc_new w (.cells #[.int .u64 0,.slice none 0 0,.int .u32 0] 40)
 have hP0:=h.grow hg0
 obtain ⟨c0,c1,c2,c3,c4,c5,cf⟩:=zSA hP0.cell
 have hg1:=(Keep.refl NoB (w.alloc (.cells #[.int .u64 0,.slice none 0 0,.int .u32 0] 40))).alloc (.cells #[.int .u64 d.session,.slice p.As d.sz.length p.cs,.int .u32 (d.sum:Nat)] 40)
 have hm:=heap_alloc_new (w.alloc (.cells #[.int .u64 0,.slice none 0 0,.int .u32 0] 40)) (.cells #[.int .u64 d.session,.slice p.As d.sz.length p.cs,.int .u32 (d.sum:Nat)] 40)
 rw [World.size_alloc] at hm
 obtain ⟨m0,m1,m2,mf⟩:=zI hm
 have HP:=LH (hP0.grow hg1)
 have HZ:=LH (Grow.heap hg1 hz)
 have HM:=LH hm
 have HG:=LH (hg0.grow hg1)
 have hl9:d.sz.length≤16:=hs.2.1
 clear h hs hz hP0 hg0 hg1 hm
 go_enter Tryz.func118,Tryz.ntmps118
 go_wp2_with fail
 refine (zDA (.slice p.As d.sz.length p.cs) d.sz _ HP.out.ro.now.1 (by omega)).mono ?_
 rintro e w2 ⟨A3,c3',rfl,hos,hg⟩
 simp only [World.size_alloc] at hos
 have hz2:=Grow.heap hg HZ.out
 have hm2:=Grow.heap hg HM.out
 have hlt:=(gE hm2).1
 obtain ⟨n0,n1,n2,nf⟩:=zI hm2
 have hm3:(w2.setCell ⟨w.heap.size+1,1,none⟩ (.slice A3 d.sz.length c3')).heap[w.heap.size+1]? = some (.cells #[.int .u64 d.session,.slice A3 d.sz.length c3',.int .u32 (d.sum:Nat)] 40 (0,0)):=by
  simp only [World.setCell,Array.getElem?_modify]
  simp [hm2]
 obtain ⟨q0,q1,q2,qf⟩:=zI hm3
 have hk3:Keep (fun k=>k=w.heap.size+1) w2 (w2.setCell ⟨w.heap.size+1,1,none⟩ (.slice A3 d.sz.length c3')):=(Keep.refl (fun k=>k=w.heap.size+1) w2).setCell (p:=⟨w.heap.size+1,1,none⟩) (.inl rfl) _
 have hz3:=(hk3.block w.heap.size (by omega) (by omega)).trans hz2
 obtain ⟨z0,z1,z2,zf⟩:=zI hz3
 have hg3:=(HG.out.grow hg).setCell (p:=⟨w.heap.size+1,1,none⟩) (.inr (by show w.heap.size≤w.heap.size+1;omega)) (.slice A3 d.sz.length c3')
 obtain ⟨hs4,hg4⟩:=zNE (.int .u64 d.session) (.slice A3 d.sz.length c3') (.int .u32 (d.sum:Nat)) hg3 (Nat.le_refl _) hz3
 have hk4:Keep (fun k=>k=w.heap.size) (w2.setCell ⟨w.heap.size+1,1,none⟩ (.slice A3 d.sz.length c3')) ((((w2.setCell ⟨w.heap.size+1,1,none⟩ (.slice A3 d.sz.length c3')).setCell ⟨w.heap.size,0,none⟩ (.int .u64 d.session)).setCell ⟨w.heap.size,1,none⟩ (.slice A3 d.sz.length c3')).setCell ⟨w.heap.size,2,none⟩ (.int .u32 (d.sum:Nat))) :=
  ((((Keep.refl (fun k=>k=w.heap.size) _).setCell (p:=⟨w.heap.size,0,none⟩) (.inl rfl) _).setCell (p:=⟨w.heap.size,1,none⟩) (.inl rfl) _).setCell (p:=⟨w.heap.size,2,none⟩) (.inl rfl) _)
 have hof:=zE (zE hos hk3 (fun k hk e=>by have h1:=(hos.lt k hk).1;have e2:k=w.heap.size+1:=e;omega)) hk4 (fun k hk e=>by have h1:=(hos.lt k hk).1;have e2:k=w.heap.size:=e;omega)
 have HFIN:=LH (And.intro hg4 (zmA hof (by omega:w.heap.size≤w.heap.size+1+1)))
 have HS4:=LH hs4
 clear hg hos hz2 hm2 hlt hm3 hk3 hz3 hg3 hs4 hg4 hk4 hof m0 m1 m2 mf c0 c1 c2 c3 c4 c5 cf
 go_wp2
 clear n0 n1 n2 nf q0 q1 q2 qf z0 z1 z2 zf
 revert HFIN HS4
 generalize (((w2.setCell ⟨w.heap.size+1,1,none⟩ (.slice A3 d.sz.length c3')).setCell ⟨w.heap.size,0,none⟩ (.int .u64 d.session)).setCell ⟨w.heap.size,1,none⟩ (.slice A3 d.sz.length c3')).setCell ⟨w.heap.size,2,none⟩ (.int .u32 (d.sum:Nat))=w9
 intro HFIN HS4
 obtain ⟨r0,r1,r2,rf⟩:=zI HS4.out
 refine bodyPost_ret (v:=.agg #[.int .u64 d.session,.slice A3 d.sz.length c3',.int .u32 (d.sum:Nat)]) ?_ rfl ⟨_,_,rfl,HFIN.out.1,HFIN.out.2⟩
 rw [zT rfl];go_simp
def offN (sz:List Int) (k:Nat):Nat:=((sz.take k).sum).toNat
def rowAt (ws sz:List Int) (k:Nat):List Int:=(ws.drop (offN sz k)).take (sz.getD k 0).toNat
def arenaW (ws sz:List Int):List (List Int):=(List.range sz.length).map (rowAt ws sz)
theorem zTA (ws sz:List Int):(arenaW ws sz).length=sz.length:=by simp [arenaW]
theorem zVD (ws sz:List Int) (k:Nat) (hk:k<sz.length):(arenaW ws sz).take (k+1)=(arenaW ws sz).take k++[rowAt ws sz k]:=by
 rw [List.take_succ_eq_append_getElem (by rw [zTA];exact hk)]
 congr 1
 simp [arenaW]
theorem zxC {sz:List Int} (hnn:∀ x∈sz,0≤x) (k:Nat) (hk:k<sz.length):offN sz (k+1)=offN sz k+(sz[k]).toNat:=by
 unfold offN
 rw [zFA hk]
 have h1:=hnn _ (List.getElem_mem hk)
 have h2:0≤(sz.take k).sum:=zeA (fun x hx=>hnn x (List.mem_of_mem_take hx))
 omega
theorem zJH {sz:List Int} (hnn:∀ x∈sz,0≤x) (k:Nat):offN sz k≤sz.sum.toNat:=by
 unfold offN
 have:=zx hnn k
 omega
theorem zyC {ws sz:List Int} (hnn:∀ x∈sz,0≤x) (hl:(ws.length:Int)=sz.sum) (k:Nat) (hk:k<sz.length):(rowAt ws sz k).length=(sz[k]).toNat:=by
 unfold rowAt
 have h1:=zxC hnn k hk
 have h2:=zJH hnn (k+1)
 have e:sz.getD k 0=sz[k]:=by simp [List.getD_eq_getElem?_getD,hk]
 rw [List.length_take,List.length_drop,e]
 omega
def HdS (a:List (List Int)) (vs:List Value) (w:World):Prop:=vs.length=a.length∧∀ i (h:i<a.length),∃ A c,vs[i]? = some (.slice A a[i].length c)∧SliceR 1 (.slice A a[i].length c) a[i].length (u64s a[i]) w
theorem HdS.grow {a:List (List Int)} {vs:List Value} {w w':World} (h:HdS a vs w) (hg:Grow w w'):HdS a vs w':=⟨h.1,fun i hi=>by
 obtain ⟨A,c,h1,h2⟩:=h.2 i hi
 exact ⟨A,c,h1,h2.grow hg⟩⟩
theorem RowsR.of_slice {a:List (List Int)} {vs:List Value} {A:Option Addr} {c:Nat} {w:World} (ho:SliceR 1 (.slice A a.length c) a.length vs w) (h:HdS a vs w):RowsR .u64 a (.slice A a.length c) w:=by
 obtain ⟨A9,c9,e9,_,_,_,hcs⟩:=ho
 injection e9 with e9
 refine ⟨A,c,rfl,fun i hi=>?_⟩
 obtain ⟨A',c',h1,h2⟩:=h.2 i hi
 obtain ⟨ad,had,hc⟩:=hcs i _ h1
 exact ⟨ad,A',c',e9.trans had,hc,h2⟩
theorem HdS.snoc {a:List (List Int)} {vs:List Value} {w:World} {r:List Int} {A:Option Addr} {c:Nat} (h:HdS a vs w) (hr:SliceR 1 (.slice A r.length c) r.length (u64s r) w):HdS (a++[r]) (vs++[.slice A r.length c]) w:=by
 refine ⟨by simp [h.1],fun i hi=>?_⟩
 by_cases hl:i<a.length
 ·obtain ⟨A',c',h1,h2⟩:=h.2 i hl
  refine ⟨A',c',?_,?_⟩
  ·rw [List.getElem?_append_left (by rw [h.1];exact hl),List.getElem_append_left hl];exact h1
  ·rw [List.getElem_append_left hl];exact h2
 ·have hi2:i=a.length:=by simp at hi;omega
  subst hi2
  refine ⟨A,c,?_,?_⟩
  ·rw [List.getElem?_append_right (by rw [h.1];omega)];simp [h.1]
  ·simpa using hr
theorem zyK {w:World} {cb:Nat} {ws:List Int} (hc:∀ (j:Nat) u,(u64s ws)[j]? = some u→w.cell? ⟨cb,j,none⟩=some u) (o off n:Nat) (ho:o=off∨n=0) (hn:off+n≤ws.length):SliceR 1 (.slice (some ⟨cb,o,none⟩) n n) n (u64s ((ws.drop off).take n)) w:=by
 refine ⟨_,_,rfl,Nat.le_refl _,by simp [u64s];omega,(fun e=>by cases e),fun j u hu=>?_⟩
 have hj:j<n:=by
  have:=(List.getElem?_eq_some_iff.1 hu).1
  simp [u64s] at this
  omega
 rcases ho with rfl | rfl
 ·refine ⟨_,rfl,?_⟩
  have e:(⟨cb,o,none⟩:Addr).add j=⟨cb,o+j,none⟩:=by
   unfold Addr.add
   split
   ·rename_i h;rw [h];rfl
   ·rfl
  rw [e]
  refine hc (o+j) u ?_
  rw [← hu]
  simp [u64s,List.getElem?_take,hj]
 ·omega
theorem zvI {b:Nat} {p:PP} {d:Par} {G:Nat→Prop} {w:World} (h:PAt b p d G w) (hno:popB d.known<chunksN d.sz) :
    Calls Tryz.prog 115 #[.pointer (some ⟨b,0,none⟩)] w fun e w'=>e=.returned (.tuple #[.slice none 0 0,.bool false])∧Grow w w':=by
 have hlt:((popB d.known:Nat):Int)<(chunksN d.sz:Nat):=by omega
 have hkl:d.known.length≤100000:=by have:=zN h.ok.fit;rw [h.ok.klen];unfold chunksN;omega
 obtain ⟨c0,c1,c2,c3,c4,c5,cf⟩:=zSA h.cell
 have HP:=LH h
 clear h hno
 go_enter Tryz.func115,Tryz.ntmps115
 go_wp2
 refine zD [0,1,2,3,4,5,6,7,9,10,11,12,8,13,14,15] [8,13] [7,12] [] rfl (by kernel_rfl) ?_
 iterate 3
  refine ord_p ?_
 iterate 4
  refine zS ?_
 refine zY (y:=by intro w' hg;have q:=hg.cell c5 (fun h=>h);go_simp;with_reducible rfl) (z:=?_)
 iterate 3
  refine zS ?_
 refine zY (y:=by intro w' hg;have q0:=hg.cell c0 (fun h=>h);have q1:=hg.cell c1 (fun h=>h);have q2:=hg.cell c2 (fun h=>h);go_simp;with_reducible rfl) (z:=?_)
 have hcn:=zoB p.Ak p.ck d.known HP.out.ok.known hkl w.drew (HP.out.grow (Keep.refl NoB w).drew).ro.now.2
 refine zAA rfl rfl rfl rfl rfl Tryz.func116 rfl rfl [.slice p.Ak d.known.length p.ck] rfl ?_
 refine hcn.mono ?_
 rintro e w1 ⟨rfl,rfl⟩
 refine ⟨_,rfl,fun _=>Keep.refl _ _,?_⟩
 simp only [Act.put,pB,pC,pD]
 have hcc:=zd d.session d.sum p.As p.cs d.sz w.drew (HP.out.grow (Keep.refl NoB w).drew).ro.now.1 HP.out.ok.fit
 refine zAA rfl rfl rfl rfl rfl Tryz.func64 rfl rfl [.agg #[.int .u64 d.session,.slice p.As d.sz.length p.cs,.int .u32 (d.sum:Nat)]] rfl ?_
 refine hcc.mono ?_
 rintro e w2 ⟨rfl,hg2⟩
 refine ⟨_,rfl,fun _=>hg2,?_⟩
 simp only [Act.put,pB,pC,pD]
 refine zS ?_
 refine ord_p ?_
 refine zF ?_
 go_wp2
 go_ret2
 exact ⟨rfl,(Keep.refl NoB w).drew.grow hg2⟩
theorem PAt.cells {b:Nat} {As Ak:Option Addr} {cs wb cw ck:Nat} {d:Par} {G:Nat→Prop} {w:World} (h:PAt b ⟨As,cs,wb,cw,Ak,ck⟩ d G w):w.cell? ⟨b,0,none⟩=some (.int .u64 d.session)∧w.cell? ⟨b,1,none⟩=some (.slice As d.sz.length cs)∧w.cell? ⟨b,2,none⟩=some (.int .u32 (d.sum:Nat))∧w.cell? ⟨b,3,none⟩=some (.slice As d.sz.length cs)∧w.cell? ⟨b,4,none⟩=some (.slice (some ⟨wb,0,none⟩) d.words.length cw)∧w.cell? ⟨b,5,none⟩=some (.slice Ak d.known.length ck)∧∀ o,w.frozen? ⟨b,o,none⟩=false:=zSA h.cell
theorem PAt.lt' {b:Nat} {As Ak:Option Addr} {cs wb cw ck:Nat} {d:Par} {G:Nat→Prop} {w:World} (h:PAt b ⟨As,cs,wb,cw,Ak,ck⟩ d G w):b<w.heap.size∧wb<w.heap.size:=h.lt
theorem zzC {b:Nat} {p:PP} {d:Par} {G:Nat→Prop} {w:World} (h:PAt b p d G w) (hall:chunksN d.sz≤popB d.known) :
    Calls Tryz.prog 115 #[.pointer (some ⟨b,0,none⟩)] w fun e w'=>∃ A c F,e=.returned (.tuple #[.slice A (arenaW d.words d.sz).length c,.bool true])∧Grow w w'∧Foot (RowsR .u64 (arenaW d.words d.sz) (.slice A (arenaW d.words d.sz).length c)) w' F∧∀ k,F k→w.heap.size≤k:=by
 have hlt:¬ (((popB d.known:Nat):Int)<(chunksN d.sz:Nat)):=by omega
 have hkl:d.known.length≤100000:=by have:=zN h.ok.fit;rw [h.ok.klen];unfold chunksN;omega
 obtain ⟨As,cs,wb,cw,Ak,ck⟩:=p
 obtain ⟨c0,c1,c2,c3,c4,c5,cf⟩:=h.cells
 have HP:=LH h
 clear h hall
 go_enter Tryz.func115,Tryz.ntmps115
 go_wp2
 refine zD [0,1,2,3,4,5,6,7,9,10,11,12,8,13,14,15] [8,13] [7,12] [] rfl (by kernel_rfl) ?_
 iterate 3
  refine ord_p ?_
 iterate 4
  refine zS ?_
 refine zY (y:=by intro w' hg;have q:=hg.cell c5 (fun h=>h);go_simp;with_reducible rfl) (z:=?_)
 iterate 3
  refine zS ?_
 refine zY (y:=by intro w' hg;have q0:=hg.cell c0 (fun h=>h);have q1:=hg.cell c1 (fun h=>h);have q2:=hg.cell c2 (fun h=>h);go_simp;with_reducible rfl) (z:=?_)
 have hcn:=zoB Ak ck d.known HP.out.ok.known hkl w.drew (HP.out.grow (Keep.refl NoB w).drew).ro.now.2
 refine zAA rfl rfl rfl rfl rfl Tryz.func116 rfl rfl [.slice Ak d.known.length ck] rfl ?_
 refine hcn.mono ?_
 rintro e w1 ⟨rfl,rfl⟩
 refine ⟨_,rfl,fun _=>Keep.refl _ _,?_⟩
 simp only [Act.put,pB,pC,pD]
 have hcc:=zd d.session d.sum As cs d.sz w.drew (HP.out.grow (Keep.refl NoB w).drew).ro.now.1 HP.out.ok.fit
 refine zAA rfl rfl rfl rfl rfl Tryz.func64 rfl rfl [.agg #[.int .u64 d.session,.slice As d.sz.length cs,.int .u32 (d.sum:Nat)]] rfl ?_
 refine hcc.mono ?_
 rintro e w2 ⟨rfl,hg2⟩
 refine ⟨_,rfl,fun _=>hg2,?_⟩
 simp only [Act.put,pB,pC,pD]
 refine zS ?_
 refine ord_p ?_
 refine zF ?_
 have hg:=(Keep.refl NoB w).drew.grow hg2
 have HG:=LH hg
 replace HP:=LH (HP.out.grow hg)
 have hfp:=zN HP.out.ok.fit
 have hn9:d.words.length≤4096:=by have:=HP.out.ok.wlen;omega
 have hsz9:d.sz.length≤16:=hfp.2.1
 have HNN:=LH hfp.2.2.1
 clear hg hg2 hcn hcc hkl c0 c1 c2 c3 c4 c5 cf hfp
 obtain ⟨c0,c1,c2,c3,c4,c5,cf⟩:=HP.out.cells
 go_wp2_with fail
 refine (zvE (.slice (some ⟨wb,0,none⟩) d.words.length cw) d.words w2 (SliceR.of_own HP.out.row) (by omega)).mono ?_
 rintro e w3 ⟨A3,C3,rfl,ho3,hg3⟩
 have hN1:1≤d.words.length:=by
  have h1:=HP.out.ok.wlen
  have h2:=HP.out.ok.fit
  unfold fitsB at h2
  simp only [decide_eq_true_eq] at h2
  have h3:=zx HNN.out 1
  have h4:=h2.2.2.1
  cases hz:d.sz with
  | nil=>rw [hz] at h2;simp at h2
  | cons x r=>rw [hz] at h3 h4 h1;simp at h3 h4 h1;omega
 obtain ⟨A',C',e',hnc,hA',hA0⟩:=zJ ho3
 injection e' with e1 e2 e3
 subst e1;subst e3
 obtain ⟨cb,rfl⟩:∃ cb,A3=some ⟨cb,0,none⟩:=by
  cases A3 with
  | none=>have:=hA0 rfl;omega
  | some ad=>exact ⟨ad.block,by have:=hA' ad.block rfl;exact this⟩
 have hcb:=ho3.lt cb rfl
 have HNC:Hid (d.words.length≤C3):=LH hnc
 have HCB:Hid (w2.heap.size≤cb∧cb<w3.heap.size):=LH hcb
 have HCL:Hid (Foot (fun u=>∀ (j:Nat) v,(u64s d.words)[j]? = some v→u.cell? ⟨cb,j,none⟩=some v) w3 (fun k=>k=cb)):=LH ((Foot.of_own ho3).imp (fun u hu j v hv=>by
  obtain ⟨A9,c9,e9,_,_,_,hq⟩:=hu
  injection e9 with e9
  subst e9
  obtain ⟨ad,had,hcell⟩:=hq j v hv
  injection had with had
  subst had
  rw [zsC] at hcell
  exact hcell) |>.mono (fun k hk=>by rw [hk];exact hcb.2) (fun k hk=>by cases hk;rfl))
 have HZ:Hid (w.heap.size≤w2.heap.size):=LH HG.out.size
 replace HG:=LH (HG.out.grow hg3)
 replace HP:=LH (HP.out.grow hg3)
 clear hlt ho3 hg3 hnc hA' hA0 hcb c0 c1 c2 c3 c4 c5 cf
 obtain ⟨c0,c1,c2,c3,c4,c5,cf⟩:=HP.out.cells
 go_wp2_with fail
 clear c0 c1 c2 c3 c4 c5 cf
 have HO0:Hid (w3.ownsRow w3.heap.size 111 1 (.slice none 0 0) 0 []∧Foot (HdS ((arenaW d.words d.sz).take 0) []) w3 (fun j=>j=cb)):=LH ⟨World.ownsRow_nil _ _ _ _,⟨fun k hk=>by rw [hk];exact HCB.out.2,fun u _=>⟨rfl,fun i hi=>by simp at hi⟩⟩⟩
 go_loopw [4,5,7,36] (fun v4 v5 v7 v wr=>∃ (k o m cr:Nat) (A4:Option Addr) (c4:Nat) (vs:List Value),k≤d.sz.length∧v=.int .i64 k∧v4=.slice A4 k c4∧v5=.slice (some ⟨cb,o,none⟩) m cr∧m+offN d.sz k=d.words.length∧m≤cr∧(o=offN d.sz k∨cr=0)∧Hid (PAt b ⟨As,cs,wb,cw,Ak,ck⟩ d G wr∧Grow w wr∧w3.heap.size≤wr.heap.size∧Foot (fun u=>∀ (j:Nat) v,(u64s d.words)[j]? = some v→u.cell? ⟨cb,j,none⟩=some v) wr (fun k=>k=cb)∧wr.ownsRow w3.heap.size 111 1 (.slice A4 k c4) k vs∧Foot (HdS ((arenaW d.words d.sz).take k) vs) wr (fun j=>j=cb))) (fun _ _ _ v _=>d.sz.length-(intOf v).toNat)
 case atStart=>exact ⟨0,0,d.words.length,C3,none,0,[],by omega,rfl,rfl,rfl,by simp [offN],HNC.out,.inl (by simp [offN]),LH ⟨HP.out,HG.out,Nat.le_refl _,HCL.out,HO0.out.1,HO0.out.2⟩⟩
 case round =>
  clear HO0
  obtain ⟨k,o,m,cr,A4,c4,vs,hk,rfl,rfl,rfl,hm,hmc,ho,HR⟩:=hrel
  have HOO:=LH ho
  clear ho
  by_cases hlt:k<d.sz.length
  ·have hlt':(k:Int)<d.sz.length:=by omega
   have hw:IntKind.i64.wrap ((k:Int)+1)=(k:Int)+1:=IntWalk.i64_in _ (by omega)
   obtain ⟨ad,rfl,q1⟩:=SliceR.int_at (k:=.i64) (show SliceR 1 (.slice As d.sz.length cs) d.sz.length (ints d.sz) wr from HR.out.1.ro.now.1) k hlt
   have hx0:=HNN.out _ (List.getElem_mem hlt)
   obtain ⟨nn,hnn⟩:∃ nn:Nat,d.sz[k]=nn:=⟨d.sz[k].toNat,by omega⟩
   have hof:=zxC HNN.out k hlt
   have hofl:=zJH HNN.out (k+1)
   rw [hnn] at hof q1
   have hwl:=HP.out.ok.wlen
   have hnm:nn≤m:=by omega
   have hin:0≤(nn:Int)∧(nn:Int)≤cr:=by omega
   have hin2:0≤(nn:Int)∧(nn:Int)≤m:=by omega
   have hrl:=zyC HNN.out HP.out.ok.wlen k hlt
   rw [hnn] at hrl
   have HOF:=LH hof
   have HRL:Hid ((rowAt d.words d.sz k).length=nn):=LH (by omega)
   have HM:=LH hm
   clear hof hofl hwl hrl hx0 hm
   go_wp2_with (at_builtin;refine zL _ rfl _ _ 29 29 rfl w3.heap.size 111 (.slice none 0 0) 1 24 zwA zOB rfl (.slice A4 k c4) k vs rfl (.slice (some ⟨wr.heap.size,0,none⟩) 1 1) 1 [.slice (some ⟨cb,o,none⟩) nn nn] rfl ?_ (by exact zE HR.out.2.2.2.2.1 ((Keep.refl NoB wr).alloc _) (fun _ _ h=>h)) (by exact Src.ofSlice _ zwA ⟨wr.heap.size,0,none⟩ 1 1 _ rfl (World.news_of_block (cs:=#[.slice (some ⟨cb,o,none⟩) nn nn]) (t:=111) (fr:=(0,0)) (heap_alloc_new wr _)) (by simp [Value.oneCell'])) (by simp only [maxLen];omega) (by omega) (by have:=HR.out.2.2.1;simp;omega);intro v7 w7 hap;refine Hid.out ?_)
   refine LH ?_
   have hk7:Keep (fun j=>(Value.slice A4 k c4).ownBlock=some j) wr w7:=((Keep.refl (fun j=>(Value.slice A4 k c4).ownBlock=some j) wr).alloc _).grown hap.grew (fun j hj=>.inl hj)
   have hge:∀ j,(Value.slice A4 k c4).ownBlock=some j→w3.heap.size≤j:=fun j hj=>(HR.out.2.2.2.2.1.lt j hj).1
   have hpl:=HP.out.lt'
   have hP7:=HR.out.1.keep hk7 (fun e=>by have:=hge b e;omega) (fun e=>by have:=hge wb e;omega) (fun j hj e=>by have:=hge j e;have:=HP.out.ro.lt hj;omega)
   have hG7:Grow w w7:=HR.out.2.1.trans hk7 (fun j hj=>.inr (by have:=hge j hj;have:=HG.out.size;omega))
   have hC7:=HR.out.2.2.2.1.keep hk7 (fun j hj e=>by have:=hge j e;have e2:j=cb:=hj;have:=HCB.out.2;omega)
   have hd7:=HR.out.2.2.2.2.2.keep hk7 (fun j hj e=>by have:=hge j e;have e2:j=cb:=hj;have:=HCB.out.2;omega)
   have hgd:(d.sz.getD k 0).toNat=nn:=by rw [List.getD_eq_getElem?_getD,List.getElem?_eq_getElem hlt,Option.getD_some,hnn];rfl
   have hsn:Foot (HdS ((arenaW d.words d.sz).take (k+1)) (vs++[.slice (some ⟨cb,o,none⟩) nn nn])) w7 (fun j=>j=cb):=((hd7.and hC7).imp (fun u hu=>by
    rw [zVD d.words d.sz k hlt]
    have hs:=zyK hu.2 o (offN d.sz k) nn (by rcases HOO.out with e | e;exact .inl e;exact .inr (by omega)) (by have:=HM.out;omega)
    have h9:=hu.1.snoc (r:=rowAt d.words d.sz k) (A:=some ⟨cb,o,none⟩) (c:=nn) (by rw [HRL.out];unfold rowAt;rw [hgd];exact hs)
    rw [HRL.out] at h9
    exact h9)).mono (fun j hj=>by have e2:j=cb:=hj;have:=HCB.out.2;have:=hk7.size;have:=HR.out.2.2.1;omega) (fun j hj=>hj.elim id id)
   have hs7:=hk7.size
   obtain ⟨A7,c7,rfl,_⟩:=zJ hap.own
   have HN:=LH (And.intro hP7 (And.intro hG7 (And.intro (Nat.le_trans HR.out.2.2.1 hs7) (And.intro hC7 (And.intro hap.own hsn)))))
   clear hk7 hge hpl hP7 hG7 hC7 hd7 hgd hsn hap hs7
   by_cases hcn:cr=nn
   ·go_wp2
    go_roundw
    case rel=>exact ⟨k+1,o,m-nn,0,A7,c7,_,by omega,by go_num,rfl,rfl,by have:=HM.out;have:=HOF.out;omega,by omega,.inr rfl,HN⟩
    case measure=>simp [intOf];omega
   ·have hcn2:¬ (nn=cr):=fun e=>hcn e.symm
    go_wp2
    go_roundw
    case rel=>exact ⟨k+1,o+nn,m-nn,cr-nn,A7,c7,_,by omega,by go_num,rfl,rfl,by have:=HM.out;have:=HOF.out;omega,by omega,.inl (by have:=HOF.out;rcases HOO.out with e | e <;> omega),HN⟩
    case measure=>simp [intOf];omega
  ·obtain rfl:k=d.sz.length:=by omega
   have hlt':¬ ((d.sz.length:Int)<d.sz.length):=by omega
   go_wp2
   go_ret2
   have hl:=zTA d.words d.sz
   have ho9:=HR.out.2.2.2.2.1
   have hd9:=HR.out.2.2.2.2.2
   rw [List.take_of_length_le (by rw [hl];omega)] at hd9
   rw [← hl] at ho9
   refine ⟨A4,c4,by rw [hl];rfl,HR.out.2.1,fun j=>(Value.slice A4 (arenaW d.words d.sz).length c4).ownBlock=some j∨j=cb,?_,?_⟩
   ·exact ((Foot.of_own ho9).and hd9).imp (fun u hu=>RowsR.of_slice hu.1 hu.2)
   ·rintro j (e | e)
    ·have:=(ho9.lt j e).1;have:=HG.out.size;omega
    ·have:=HCB.out.1;have:=HZ.out;omega
theorem zyF (A1 A2:Option Addr) (c1 c2:Nat) (l1 l2:List Int) (h9:l1.length≤1000000) (w:World) (h1:SliceR 1 (.slice A1 l1.length c1) l1.length (ints l1) w) (h2:SliceR 1 (.slice A2 l2.length c2) l2.length (ints l2) w) :
    Calls Tryz.prog 256 #[.slice A1 l1.length c1,.slice A2 l2.length c2] w fun e w'=>e=.returned (.bool (decide (l1=l2)))∧Grow w w':=by
 by_cases hl:l1.length=l2.length
 case neg =>
  have hb:(((l1.length:Nat):Int) != ((l2.length:Nat):Int))=true:=by simp;omega
  have HE:Hid (decide (l1=l2)=false):=LH (decide_eq_false (fun e=>hl (by rw [e])))
  clear h1 h2
  go_enter Tryz.func256,Tryz.ntmps256
  go_wp2
  go_ret
  exact ⟨by rw [HE.out];rfl,Keep.refl _ _⟩
 have hb:(((l1.length:Nat):Int) != ((l2.length:Nat):Int))=false:=by simp;omega
 have H1:=LH h1
 have H2:=LH h2
 have HL:=LH hl
 clear h1 h2 hl
 go_enter Tryz.func256,Tryz.ntmps256
 go_wp2
 clear hb
 go_loopw [5,13] (fun v5 v wr=>∃ k:Nat,k≤l1.length∧v=.int .i64 k∧Hid (Grow w wr∧l1.take k=l2.take k)) (fun _ v _=>l1.length-(intOf v).toNat)
 case atStart=>exact ⟨0,by omega,rfl,LH ⟨Keep.refl _ _,by simp⟩⟩
 case round =>
  obtain ⟨k,hk,rfl,HR⟩:=hrel
  by_cases hlt:k<l1.length
  ·have hlt':(k:Int)<l1.length:=by omega
   have hw:IntKind.i64.wrap ((k:Int)+1)=(k:Int)+1:=IntWalk.i64_in _ (by omega)
   have hlt2:k<l2.length:=by have:=HL.out;omega
   have hlt2':(k:Int)<l2.length:=by omega
   have hk0:0≤(k:Int):=by omega
   obtain ⟨ad1,rfl,q1⟩:=SliceR.int_at (k:=.i64) (H1.out.grow HR.out.1) k hlt
   obtain ⟨ad2,rfl,q2⟩:=SliceR.int_at (k:=.i64) (H2.out.grow HR.out.1) k hlt2
   have HT:Hid (l1[k]=l2[k]→l1.take (k+1)=l2.take (k+1)):=LH (fun e=>by
    rw [List.take_succ_eq_append_getElem hlt,List.take_succ_eq_append_getElem hlt2,HR.out.2,e])
   have HF:Hid (l1[k]≠l2[k]→¬ (l1=l2)):=LH (fun e e2=>by subst e2;exact e rfl)
   generalize l1[k]=x1 at q1 HT HF
   generalize l2[k]=x2 at q2 HT HF
   go_wp2
   refine zD [0,1,2,3,4,5,6,7,8] [] [3,7] [] rfl (by kernel_rfl) ?_
   iterate 3
    refine ord_p ?_
   refine ord_r (y:=by intro w' hg;have q:=hg.cell q1 (fun h=>h);go_simp;with_reducible rfl) (z:=?_)
   iterate 3
    refine ord_p ?_
   refine ord_r (y:=by intro w' hg;have q:=hg.cell q2 (fun h=>h);go_simp;with_reducible rfl) (z:=?_)
   refine ord_p ?_
   refine zF ?_
   have HG:=LH (HR.out.1.grow (Keep.refl NoB wr).drew)
   by_cases hx:x1=x2
   ·have hxb:(x1 != x2)=false:=by simp [hx]
    have HN:=LH (And.intro HG.out (HT.out hx))
    clear hx
    go_wp2
    go_roundw
    case rel=>exact ⟨k+1,by omega,by go_num,HN⟩
    case measure=>simp [intOf];omega
   ·have hxb:(x1 != x2)=true:=by simp [hx]
    have HN:=LH (HF.out hx)
    clear hx
    go_wp2
    go_ret
    exact ⟨by rw [decide_eq_false HN.out];rfl,HG.out⟩
  ·obtain rfl:k=l1.length:=by omega
   have hlt':¬ ((l1.length:Int)<l1.length):=by omega
   have HN:Hid (l1=l2):=LH (by
    have:=HR.out.2
    rw [List.take_length,HL.out,List.take_length] at this
    exact this)
   go_wp2
   go_ret
   exact ⟨by rw [decide_eq_true HN.out];rfl,HR.out.1⟩
theorem zjG (s1 s2:Int) (m1 m2:Nat) (A1 A2:Option Addr) (c1 c2:Nat) (l1 l2:List Int) (h9:l1.length≤1000000) (w:World) (h1:SliceR 1 (.slice A1 l1.length c1) l1.length (ints l1) w) (h2:SliceR 1 (.slice A2 l2.length c2) l2.length (ints l2) w) :
    Calls Tryz.prog 222 #[.agg #[.int .u64 s1,.slice A1 l1.length c1,.int .u32 (m1:Nat)],.agg #[.int .u64 s2,.slice A2 l2.length c2,.int .u32 (m2:Nat)]] w fun e w'=>e=.returned (.bool (decide (s1=s2∧m1=m2∧l1=l2)))∧Grow w w':=by
 obtain ⟨ha,hb,hg⟩:=zU w (.cells #[.int .u64 s1,.slice A1 l1.length c1,.int .u32 (m1:Nat)] 40) (.cells #[.int .u64 s2,.slice A2 l2.length c2,.int .u32 (m2:Nat)] 40)
 obtain ⟨a0,a1,a2,af⟩:=zI ha
 obtain ⟨b0,b1,b2,bf⟩:=zI hb
 have HG:=LH hg
 have HE:=LH (zyF A1 A2 c1 c2 l1 l2 h9 _ (h1.grow hg) (h2.grow hg))
 clear h1 h2 ha hb hg
 by_cases hs:s1=s2
 case neg =>
  have hsb:(s1==s2)=false:=by simp [hs]
  have HN:=LH hs
  clear hs
  go_enter Tryz.func222,Tryz.ntmps222
  go_wp2
  go_ret
  exact ⟨by rw [decide_eq_false (fun h=>HN.out h.1)];rfl,HG.out⟩
 by_cases hm:m1=m2
 case neg =>
  have hsb:(s1==s2)=true:=by simp [hs]
  have hmb:(((m1:Nat):Int)==((m2:Nat):Int))=false:=by simp;omega
  have HN:=LH hm
  clear hs hm
  go_enter Tryz.func222,Tryz.ntmps222
  go_wp2
  go_ret
  exact ⟨by rw [decide_eq_false (fun h=>HN.out h.2.1)];rfl,HG.out⟩
 have hsb:(s1==s2)=true:=by simp [hs]
 have hmb:(((m1:Nat):Int)==((m2:Nat):Int))=true:=by simp;omega
 have HN:=LH (And.intro hs hm)
 clear hs hm
 go_enter Tryz.func222,Tryz.ntmps222
 go_wp2_with fail
 refine HE.out.mono ?_
 rintro e w1 ⟨rfl,hg⟩
 have HG2:=LH (HG.out.grow hg)
 clear hg
 by_cases hl:l1=l2
 ·have hd:decide (l1=l2)=true:=decide_eq_true hl
  rw [hd]
  have HL:=LH hl
  clear hl hd
  go_wp2
  go_ret
  exact ⟨by rw [decide_eq_true ⟨HN.out.1,HN.out.2,HL.out⟩];rfl,HG2.out⟩
 ·have hd:decide (l1=l2)=false:=decide_eq_false hl
  rw [hd]
  have HL:=LH hl
  clear hl hd
  go_wp2
  go_ret
  exact ⟨by rw [decide_eq_false (fun h=>HL.out h.2.2)];rfl,HG2.out⟩
end Go.Proofs.YtfkcpaahdlkcdaaGreat

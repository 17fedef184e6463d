import Derived.Test.YtfkcpaahdlkcdaaGreatRRecvSum06
import Derived.Maps.OwnSet
import Derived.Laws.StructEq
set_option linter.unusedSimpArgs false
set_option linter.unusedVariables false
set_option maxRecDepth 100000
set_option maxHeartbeats 16000000
namespace Go.Proofs.YtfkcpaahdlkcdaaGreat
open Go.RowKit
theorem u_int:Tryz.prog.underlying 3=some (.int .i64):=Tryz.underlying3
theorem zZI:Maps.Keyed Tryz.prog 3:=Maps.int_keyed u_int
abbrev okI (k:Int):Prop:=(Lit.int .i64 k).wf=true
theorem zmK {k:Int} (h:okI k):keyOf Tryz.prog 3 (.int .i64 k)=some (.int .i64 k):=Maps.keyOf_int_mk u_int h
theorem isKey (k:Int):WideAt.IsKeyLit (.int .i64 k):=trivial
abbrev KT:Type:=Int×Int
structure Snd where
 session:Int
 sz:List Int
 sum:Nat
 ch:List (List Int)
 win:Int
 back:Int
 retry:Int
 quota:Int
 phase:Int
 err:Int
 acked:List Int
 tries:List Int
 tm:List KT
theorem Keep.setObj {S:Nat→Prop} {a b:World} (h:Keep S a b) {r:Nat} (hr:S r∨a.heap.size≤r) (o:Obj):Keep S a { b with heap:=b.heap.setIfInBounds r o } :=
 ⟨h.os,h.tape,h.output,by simpa using h.size,fun i hi hS=>by
  show (b.heap.setIfInBounds r o)[i]? = _
  rw [Array.getElem?_setIfInBounds_ne (by intro e;subst e;rcases hr with hr | hr;exact hS hr;omega)]
  exact h.block i hi hS⟩
def OneG (w:World) (b:Nat) (kind session index of:Int) (sum:Nat):Prop:=w.heap[b]? = some (.cells #[.int .i64 kind,.int .u64 session,.int .i64 index,.int .i64 of,.int .u32 (sum:Nat),.slice none 0 0,.slice none 0 0] 46 (0,0))
theorem zKA {w:World} {g T:Nat} {a0 a1 a2 a3:Value} (h:w.heap[g]? = some (.cells #[a0,a1,a2,a3] T (0,0))):w.cell? ⟨g,0,none⟩=some a0∧w.cell? ⟨g,1,none⟩=some a1∧w.cell? ⟨g,2,none⟩=some a2∧w.cell? ⟨g,3,none⟩=some a3∧∀ o,w.frozen? ⟨g,o,none⟩=false :=
 ⟨World.news_of_block h 0 _ rfl,World.news_of_block h 1 _ rfl,World.news_of_block h 2 _ rfl,World.news_of_block h 3 _ rfl,fun o=>zM o h⟩
theorem zOE {w0 w:World} {g T:Nat} {a0 a1 a2 a3:Value} (n0 n1 n2 n3:Value) (hg:Grow w0 w) (hge:w0.heap.size≤g) (h:w.heap[g]? = some (.cells #[a0,a1,a2,a3] T (0,0))) :
    ((((w.setCell ⟨g,0,none⟩ n0).setCell ⟨g,1,none⟩ n1).setCell ⟨g,2,none⟩ n2).setCell ⟨g,3,none⟩ n3).heap[g]? = some (.cells #[n0,n1,n2,n3] T (0,0))∧Grow w0 ((((w.setCell ⟨g,0,none⟩ n0).setCell ⟨g,1,none⟩ n1).setCell ⟨g,2,none⟩ n2).setCell ⟨g,3,none⟩ n3):=by
 refine ⟨?_,((((hg.setCell (p:=⟨g,0,none⟩) (.inr hge) _).setCell (p:=⟨g,1,none⟩) (.inr hge) _).setCell (p:=⟨g,2,none⟩) (.inr hge) _).setCell (p:=⟨g,3,none⟩) (.inr hge) _)⟩
 simp only [World.setCell,Array.getElem?_modify]
 simp [h]
theorem zV (B o:Nat) (w:World) (v:Value):Keep (fun k=>k=B) w (w.setCell ⟨B,o,none⟩ v):=(Keep.refl (fun k=>k=B) w).setCell (p:=⟨B,o,none⟩) (.inl rfl) v
theorem Foot.cell_mem {P:World→Prop} {W:World} {F:Nat→Prop} (h:Foot P W F) {p:Addr} (hp:∀ W',P W'→∃ v,W'.cell? p=some v):F p.block:=by
 by_cases hF:F p.block
 ·exact hF
 ·exfalso
  obtain ⟨v,hv⟩:=hp { W with heap:=W.heap.setIfInBounds p.block (.map #[] 0) } (h.2 _ (fun k hk=>by
   have:p.block≠k:=fun e=>hF (e ▸ hk)
   simp [Array.getElem?_setIfInBounds,this]))
  unfold World.cell? at hv
  rw [Array.getElem?_setIfInBounds_self] at hv
  split at hv
  ·rename_i hq
   split at hq <;> simp at hq
  ·simp at hv
end Go.Proofs.YtfkcpaahdlkcdaaGreat
namespace Go.Proofs.YtfkcpaahdlkcdaaGreat
open Go.RowKit
theorem zCH {P:Program} {ops:Array Oper} {Q:Exit→Act→World→Prop} {S:Nat→Prop} {ds:List Nat} {md:Region.Mode} {a:Act} {w:World} {n m:Nat} {l:Array Bool} (ord acts reads:List Nat) (l':Array Bool)
    (hc:(Region.noSelect ops&&ordOkC md ops acts reads ds (fun k=>k==l') ord l&&(n+ord.length==m))=true)
    (h:wpOrdC S P ops Q (wpAnyG S P md ops Q ds n l') acts reads ds ord a w):wpAnyG S P md ops Q ds m l a w:=by
 simp only [Bool.and_eq_true,beq_iff_eq] at hc
 have:=zOA (n:=n) hc.1.1 (fun k a w hl hq=>by rw [beq_iff_eq.1 hl];exact hq) ord _ a w hc.1.2 h
 rwa [hc.2] at this
def chsP (a:List (List Int)):List (List Int):=(List.range (chunksN (szs a))).map (chunkP a)
def newD (session:Int) (a:List (List Int)) (win back retry quota:Int):Snd :=
 ⟨session,szs a,sumP session a,chsP a,win,back,retry,quota,1,0,makeB (pagesN (szs a)+chunksN (szs a)),List.replicate (pagesN (szs a)+chunksN (szs a)) 0,[]⟩
theorem zbJ (session:Int) (a:List (List Int)):∀ x∈maniB session a,0≤x∧x≤255:=fun x hx=>by
 unfold maniB at hx
 rcases List.mem_append.1 hx with hx | hx
 ·rcases List.mem_append.1 hx with hx | hx
  ·exact zuA _ _ x hx
  ·obtain ⟨y,_,hy⟩:=List.mem_flatMap.1 hx
   exact zuA _ _ x hy
 ·exact zlC a x hx
namespace NewI
variable {g:Nat} {W:World} {session:Int} {a:List (List Int)} {win back retry quota:Int} {q:Nat} {As:Option Addr} {cs:Nat} {Fq G1:Nat→Prop} {rows:List Value} {Ac:Option Addr} {cc:Nat} {Gc:Nat→Prop} {aa tt:Value} {w w':World}
end NewI
end Go.Proofs.YtfkcpaahdlkcdaaGreat
namespace Go.Proofs.YtfkcpaahdlkcdaaGreat
open Go.RowKit
theorem zjF (k j:Int) (w:World) (hk:0≤k∧k≤255) (hj:0≤j∧j≤255) :
    Calls Tryz.prog 14 #[.int .u8 k,.int .u8 j] w fun e w'=>e=.returned (.agg #[.int .i64 (1+k%5),.int .i64 (1+k/16),.int .i64 (1+j%40),.int .i64 1048576])∧Grow w w':=by
 have hw1:IntKind.i64.wrap (1+k%5)=1+k%5:=IntWalk.i64_in _ (by omega)
 have hw2:IntKind.i64.wrap (1+k/16)=1+k/16:=IntWalk.i64_in _ (by omega)
 have hw3:IntKind.i64.wrap (1+j%40)=1+j%40:=IntWalk.i64_in _ (by omega)
 have hb1:0≤k%5∧k%5≤4:=by omega
 have hb2:0≤k/16∧k/16≤15:=by omega
 have hb3:0≤j%40∧j%40≤39:=by omega
 obtain ⟨k0,k1⟩:=hk
 obtain ⟨j0,j1⟩:=hj
 go_enter Tryz.func14,Tryz.ntmps14
 go_wp2
 refine bodyPost_ret (v:=.agg #[.int .i64 (1+k%5),.int .i64 (1+k/16),.int .i64 (1+j%40),.int .i64 1048576]) ?_ rfl ⟨rfl,(Keep.refl NoB w).alloc _⟩
 rw [zT rfl];go_simp
def kD:Snd:=newD 5 [[0]] 1 1 3 0
theorem OkA.one:OkA [[0]]:=⟨by decide,by decide,by decide⟩
theorem OkA.nil:OkA []:=⟨by decide,by decide,by decide⟩
theorem ret_i {k:IntKind} {a b:Int} (h:a=b):Ending.returned (.int k a)=.returned (.int k b):=by rw [h]
theorem znK {x:Int} (h:x<536870912):x=sg30 x:=by unfold sg30;rw [if_pos h]
theorem zoK {x:Int} (h:536870912≤x):x-536870912-536870912=sg30 x:=by unfold sg30;rw [if_neg (by omega)];omega
theorem zrD {k n:Nat} (h:k≤n):(1:Int)≤2 ^ k∧(2:Int) ^ k≤2 ^ n:=by
 constructor
 ·have:=Nat.one_le_two_pow (n:=k);exact_mod_cast this
 ·have:=Nat.pow_le_pow_right (n:=2) (by omega) h;exact_mod_cast this
theorem zcJ (x:Int) (k:Nat):x/2 ^ k/2=x/2 ^ (k+1):=by
 rw [Int.pow_succ,Int.ediv_ediv_of_nonneg]
 exact Int.le_of_lt (Int.pow_pos (by omega))
theorem zTD (x:Int) (f n:Nat) (w:World) (hx:0≤x) (hx2:x≤18446744073709551615) (hf:f≤63) (hn:n≤63) :
    Calls Tryz.prog 199 #[.int .u64 x,.int .i64 f,.int .i64 n] w fun e w'=>e=.returned (.int .u64 (x/2 ^ f%2 ^ n))∧w=w':=by
 go_enter Tryz.func199,Tryz.ntmps199
 go_wp2
 go_loop [0,7] (fun a i=>∃ k:Nat,k≤f∧i=.int .i64 k∧a=.int .u64 (x/2 ^ k)) (fun _ i=>f-(intOf i).toNat)
 case atStart=>exact ⟨0,by omega,rfl,by simp⟩
 case round =>
  obtain ⟨k,hk,rfl,rfl⟩:=hrel
  have hd:=zcJ x k
  have h0:0≤x/2 ^ k:=Int.ediv_nonneg hx (Int.le_of_lt (Int.pow_pos (by omega)))
  have h1:x/2 ^ k≤18446744073709551615:=Int.le_trans (Int.ediv_le_self _ hx) hx2
  obtain ⟨y,hy⟩:∃ y,x/2 ^ k=y:=⟨_,rfl⟩
  rw [hy] at hd h0 h1 ⊢
  have HD:=LH hd
  have HY:=LH hy
  clear hd hy
  by_cases hlt:k<f
  ·have hlt':(k:Int)<f:=by omega
   have hw:IntKind.i64.wrap ((k:Int)+1)=(k:Int)+1:=IntWalk.i64_in _ (by omega)
   go_wp2
   go_round
   case rel=>exact ⟨k+1,by omega,by go_num,by rw [← HD.out]⟩
   case measure=>simp [intOf];omega
  ·obtain rfl:k=f:=by omega
   have hlt':¬ ((k:Int)<k):=by omega
   go_wp2
   go_loop [8,9] (fun a i=>∃ j:Nat,j≤n∧i=.int .i64 j∧a=.int .u64 (2 ^ j)) (fun _ i=>n-(intOf i).toNat)
   case atStart=>exact ⟨0,by omega,rfl,rfl⟩
   case round =>
    obtain ⟨j,hj,rfl,rfl⟩:=hrel
    have hp:=zrD (k:=j) (n:=63) (by omega)
    have hp2:=zrD (k:=n) (n:=63) (by omega)
    have hps:(2:Int) ^ (j+1)=2*2 ^ j:=by rw [Int.pow_succ,Int.mul_comm]
    have h63:(2:Int) ^ 63=9223372036854775808:=by decide
    rw [h63] at hp hp2
    obtain ⟨z,hz⟩:∃ z:Int,2 ^ j=z:=⟨_,rfl⟩
    rw [hz] at hp hps ⊢
    have HPS:=LH hps
    have HZ:=LH hz
    clear hps hz h63
    by_cases hlt2:j<n
    ·have hlt2':(j:Int)<n:=by omega
     have hw:IntKind.i64.wrap ((j:Int)+1)=(j:Int)+1:=IntWalk.i64_in _ (by omega)
     have hpl:=zrD (k:=j+1) (n:=63) (by omega)
     have hw2:IntKind.u64.wrap (2*z)=2*z:=IntWalk.u64_in _ (by rw [HPS.out] at hpl;omega)
     clear hpl
     go_wp2
     go_round
     case rel=>exact ⟨j+1,by omega,by go_num,by rw [← HPS.out]⟩
     case measure=>simp [intOf];omega
    ·obtain rfl:j=n:=by omega
     have hlt2':¬ ((j:Int)<j):=by omega
     have hz0:z≠0:=by omega
     have hz1:1≤z:=hp.1
     clear hp hp2
     go_wp2
     go_ret
     exact ⟨ret_i (by rw [HY.out,HZ.out]),rfl⟩
theorem zFB (x:Int) (w:World) (hx:0≤x) (hx2:x<1073741824) :
    Calls Tryz.prog 200 #[.int .u64 x,.int .i64 30] w fun e w'=>e=.returned (.int .i64 (sg30 x))∧w=w':=by
 go_enter Tryz.func200,Tryz.ntmps200
 go_wp2
 go_loop [5,6] (fun a i=>∃ j:Nat,j≤29∧i=.int .i64 (j+1:Nat)∧a=.int .i64 (2 ^ j)) (fun _ i=>30-(intOf i).toNat)
 case atStart=>exact ⟨0,by omega,rfl,rfl⟩
 case round =>
  obtain ⟨j,hj,rfl,rfl⟩:=hrel
  have hp:=zrD (k:=j) (n:=29) (by omega)
  have hps:(2:Int) ^ (j+1)=2*2 ^ j:=by rw [Int.pow_succ,Int.mul_comm]
  have h29:(2:Int) ^ 29=536870912:=by decide
  rw [h29] at hp
  have h29':j=29→(2:Int) ^ j=536870912:=fun e=>by rw [e];exact h29
  obtain ⟨z,hz⟩:∃ z:Int,2 ^ j=z:=⟨_,rfl⟩
  rw [hz] at hp hps h29' ⊢
  have HPS:=LH hps
  have H29:=LH h29'
  clear hps hz h29 h29'
  by_cases hlt:j<29
  ·have hlt':((j+1:Nat):Int)<30:=by omega
   have hw:IntKind.i64.wrap (((j+1:Nat):Int)+1)=((j+1:Nat):Int)+1:=IntWalk.i64_in _ (by omega)
   have hw2:IntKind.i64.wrap (2*z)=2*z:=IntWalk.i64_in _ (by omega)
   obtain ⟨j1,hj1⟩:∃ j1,j+1=j1:=⟨_,rfl⟩
   rw [hj1] at hlt' hw ⊢
   have HJ:=LH hj1
   clear hj1
   go_wp2
   go_round
   case rel=>exact ⟨j+1,by omega,by rw [HJ.out];go_num,by rw [← HPS.out]⟩
   case measure=>simp [intOf];have:=HJ.out;omega
  ·obtain rfl:j=29:=by omega
   have hz:=H29.out rfl
   subst hz
   clear H29 HPS hp hj hlt
   by_cases h5:x<536870912
   ·have hc:x%1073741824=x:=by omega
    have h5':¬ 536870912≤x:=by omega
    go_wp2
    go_ret
    exact ⟨ret_i (znK h5),rfl⟩
   ·have hc:x%1073741824=x:=by omega
    have h5':536870912≤x:=by omega
    go_wp2
    go_ret
    exact ⟨ret_i (zoK h5'),rfl⟩
theorem zQA (x:Int) (f n:Nat) (F N:Int) (w:World) (hx:0≤x) (hx2:x≤18446744073709551615) (hf:f≤63) (hn:n≤63) (hF:(2:Int) ^ f=F) (hN:(2:Int) ^ n=N) :
    Calls Tryz.prog 199 #[.int .u64 x,.int .i64 f,.int .i64 n] w fun e w'=>e=.returned (.int .u64 (x/F%N))∧w=w':=by
 subst hF hN
 exact zTD x f n w hx hx2 hf hn
def RDecPost (x:Int) (w:World) (e:Ending) (w':World):Prop:=e=.returned (.tuple #[.agg #[.int .i64 (ptrDec x).1.kind,.int .i64 (ptrDec x).1.off,.int .i64 (ptrDec x).1.data,.int .i64 (ptrDec x).1.ptrs,.int .i64 (ptrDec x).1.size,.int .i64 (ptrDec x).1.count,.int .i64 (ptrDec x).1.seg,.bool (ptrDec x).1.dbl],.int .i64 (ptrDec x).2])∧Grow w w'
theorem zdJ (w:World):Calls Tryz.prog 129 #[.int .u64 0] w (RDecPost 0 w):=by
 go_enter Tryz.func129,Tryz.ntmps129
 go_wp2
 refine bodyPost_ret (v:=.tuple #[.agg #[.int .i64 0,.int .i64 0,.int .i64 0,.int .i64 0,.int .i64 0,.int .i64 0,.int .i64 0,.bool false],.int .i64 0]) ?_ rfl ⟨rfl,(Keep.refl NoB _).alloc _⟩
 rw [results_cell_tmp rfl];go_simp
theorem zgG (x:Int) (w:World) (hx:0≤x) (hx2:x≤18446744073709551615) (h0:¬ x=0) (hm:x%4=0):Calls Tryz.prog 129 #[.int .u64 x] w (RDecPost x w):=by
 have h0b:(x==0)=false:=beq_eq_false_iff_ne.2 h0
 have m0:(x%4==0)=true:=by rw [beq_iff_eq];omega
 have m1:(x%4==1)=false:=by rw [beq_eq_false_iff_ne];omega
 have m2:(x%4==2)=false:=by rw [beq_eq_false_iff_ne];omega
 have HE:Hid (ptrDec x=(⟨1,sg30 (x/4%1073741824),x/4294967296%65536,x/281474976710656%65536,0,0,0,false⟩,0)):=LH (by unfold ptrDec;rw [if_neg h0,if_pos hm])
 clear hm h0
 go_enter Tryz.func129,Tryz.ntmps129
 go_wp2_with fail
 refine (zQA x 2 30 4 1073741824 _ hx hx2 (by omega) (by omega) (by decide) (by decide)).mono ?_
 rintro e w1 ⟨rfl,rfl⟩
 go_wp2_with fail
 refine (zFB (x/4%1073741824) _ (by omega) (by omega)).mono ?_
 rintro e w2 ⟨rfl,rfl⟩
 go_wp2_with fail
 refine (zQA x 32 16 4294967296 65536 _ hx hx2 (by omega) (by omega) (by decide) (by decide)).mono ?_
 rintro e w3 ⟨rfl,rfl⟩
 go_wp2_with fail
 refine (zQA x 48 16 281474976710656 65536 _ hx hx2 (by omega) (by omega) (by decide) (by decide)).mono ?_
 rintro e w4 ⟨rfl,rfl⟩
 go_wp2
 refine bodyPost_ret (v:=.tuple #[.agg #[.int .i64 1,.int .i64 (sg30 (x/4%1073741824)),.int .i64 (x/4294967296%65536),.int .i64 (x/281474976710656%65536),.int .i64 0,.int .i64 0,.int .i64 0,.bool false],.int .i64 0]) ?_ rfl ⟨?_,(Keep.refl NoB _).alloc _⟩
 ·rw [results_cell_tmp rfl];go_simp
 ·rw [HE.out]
theorem zaI (x:Int) (w:World) (hx:0≤x) (hx2:x≤18446744073709551615) (h0:¬ x=0) (hm:x%4=1):Calls Tryz.prog 129 #[.int .u64 x] w (RDecPost x w):=by
 have h0b:(x==0)=false:=beq_eq_false_iff_ne.2 h0
 have m0:(x%4==0)=false:=by rw [beq_eq_false_iff_ne];omega
 have m1:(x%4==1)=true:=by rw [beq_iff_eq];omega
 have m2:(x%4==2)=false:=by rw [beq_eq_false_iff_ne];omega
 have HE:Hid (ptrDec x=(⟨2,sg30 (x/4%1073741824),0,0,x/4294967296%8,x/34359738368%536870912,0,false⟩,0)):=LH (by unfold ptrDec;rw [if_neg h0,if_neg (by omega),if_pos hm])
 clear hm h0
 go_enter Tryz.func129,Tryz.ntmps129
 go_wp2_with fail
 refine (zQA x 2 30 4 1073741824 _ hx hx2 (by omega) (by omega) (by decide) (by decide)).mono ?_
 rintro e w1 ⟨rfl,rfl⟩
 go_wp2_with fail
 refine (zFB (x/4%1073741824) _ (by omega) (by omega)).mono ?_
 rintro e w2 ⟨rfl,rfl⟩
 go_wp2_with fail
 refine (zQA x 32 3 4294967296 8 _ hx hx2 (by omega) (by omega) (by decide) (by decide)).mono ?_
 rintro e w3 ⟨rfl,rfl⟩
 go_wp2_with fail
 refine (zQA x 35 29 34359738368 536870912 _ hx hx2 (by omega) (by omega) (by decide) (by decide)).mono ?_
 rintro e w4 ⟨rfl,rfl⟩
 go_wp2
 refine bodyPost_ret (v:=.tuple #[.agg #[.int .i64 2,.int .i64 (sg30 (x/4%1073741824)),.int .i64 0,.int .i64 0,.int .i64 (x/4294967296%8),.int .i64 (x/34359738368%536870912),.int .i64 0,.bool false],.int .i64 0]) ?_ rfl ⟨?_,(Keep.refl NoB _).alloc _⟩
 ·rw [results_cell_tmp rfl];go_simp
 ·rw [HE.out]
theorem zeJ (x:Int) (w:World) (hx:0≤x) (hx2:x≤18446744073709551615) (h0:¬ x=0) (hm:x%4=2):Calls Tryz.prog 129 #[.int .u64 x] w (RDecPost x w):=by
 have h0b:(x==0)=false:=beq_eq_false_iff_ne.2 h0
 have m0:(x%4==0)=false:=by rw [beq_eq_false_iff_ne];omega
 have m1:(x%4==1)=false:=by rw [beq_eq_false_iff_ne];omega
 have m2:(x%4==2)=true:=by rw [beq_iff_eq];omega
 have HE:Hid (ptrDec x=(⟨3,x/8%536870912,0,0,0,0,x/4294967296%4294967296,(x/4%2==1)⟩,0)):=LH (by unfold ptrDec;rw [if_neg h0,if_neg (by omega),if_neg (by omega),if_pos hm])
 clear hm h0
 go_enter Tryz.func129,Tryz.ntmps129
 go_wp2_with fail
 refine (zQA x 2 30 4 1073741824 _ hx hx2 (by omega) (by omega) (by decide) (by decide)).mono ?_
 rintro e w1 ⟨rfl,rfl⟩
 go_wp2_with fail
 refine (zFB (x/4%1073741824) _ (by omega) (by omega)).mono ?_
 rintro e w2 ⟨rfl,rfl⟩
 go_wp2_with fail
 refine (zQA x 3 29 8 536870912 _ hx hx2 (by omega) (by omega) (by decide) (by decide)).mono ?_
 rintro e w3 ⟨rfl,rfl⟩
 go_wp2_with fail
 refine (zQA x 32 32 4294967296 4294967296 _ hx hx2 (by omega) (by omega) (by decide) (by decide)).mono ?_
 rintro e w4 ⟨rfl,rfl⟩
 go_wp2_with fail
 refine (zQA x 2 1 4 2 _ hx hx2 (by omega) (by omega) (by decide) (by decide)).mono ?_
 rintro e w5 ⟨rfl,rfl⟩
 go_wp2
 refine bodyPost_ret (v:=.tuple #[.agg #[.int .i64 3,.int .i64 (x/8%536870912),.int .i64 0,.int .i64 0,.int .i64 0,.int .i64 0,.int .i64 (x/4294967296%4294967296),.bool (x/4%2==1)],.int .i64 0]) ?_ rfl ⟨?_,(Keep.refl NoB _).alloc _⟩
 ·rw [results_cell_tmp rfl];go_simp
 ·rw [HE.out]
theorem zfJ (x:Int) (w:World) (hx:0≤x) (hx2:x≤18446744073709551615) (h0:¬ x=0) (hm:x%4=3):Calls Tryz.prog 129 #[.int .u64 x] w (RDecPost x w):=by
 have h0b:(x==0)=false:=beq_eq_false_iff_ne.2 h0
 have m0:(x%4==0)=false:=by rw [beq_eq_false_iff_ne];omega
 have m1:(x%4==1)=false:=by rw [beq_eq_false_iff_ne];omega
 have m2:(x%4==2)=false:=by rw [beq_eq_false_iff_ne];omega
 have HE:Hid (ptrDec x=(pt0,23)):=LH (by unfold ptrDec;rw [if_neg h0,if_neg (by omega),if_neg (by omega),if_neg (by omega)])
 clear hm h0
 go_enter Tryz.func129,Tryz.ntmps129
 go_wp2_with fail
 refine (zQA x 2 30 4 1073741824 _ hx hx2 (by omega) (by omega) (by decide) (by decide)).mono ?_
 rintro e w1 ⟨rfl,rfl⟩
 go_wp2_with fail
 refine (zFB (x/4%1073741824) _ (by omega) (by omega)).mono ?_
 rintro e w2 ⟨rfl,rfl⟩
 go_wp2
 refine bodyPost_ret (v:=.tuple #[.agg #[.int .i64 0,.int .i64 0,.int .i64 0,.int .i64 0,.int .i64 0,.int .i64 0,.int .i64 0,.bool false],.int .i64 23]) ?_ rfl ⟨?_,(Keep.refl NoB _).alloc _⟩
 ·rw [results_cell_tmp rfl];go_simp
 ·rw [HE.out];rfl
theorem zXA (x:Int) (w:World) (hx:0≤x) (hx2:x≤18446744073709551615):Calls Tryz.prog 129 #[.int .u64 x] w (RDecPost x w):=by
 by_cases h0:x=0
 ·subst h0;exact zdJ w
 ·rcases (by omega:x%4=0∨x%4=1∨x%4=2∨x%4=3) with h | h | h | h
  ·exact zgG x w hx hx2 h0 h
  ·exact zaI x w hx hx2 h0 h
  ·exact zeJ x w hx hx2 h0 h
  ·exact zfJ x w hx hx2 h0 h
theorem zmB (x:Int):0≤IntKind.u64.wrap x∧IntKind.u64.wrap x≤18446744073709551615:=by
 have:IntKind.u64.wrap x=x%18446744073709551616:=rfl
 omega
theorem zCA (x:Int) (n:Nat) (w:World) (hn:n≤63) :
    Calls Tryz.prog 128 #[.int .i64 x,.int .i64 n] w fun e w'=>e=.returned (.int .u64 (IntKind.u64.wrap x%2 ^ n))∧w=w':=by
 obtain ⟨y,hy⟩:∃ y,IntKind.u64.wrap x=y:=⟨_,rfl⟩
 have hb:=zmB x
 rw [hy] at hb ⊢
 go_enter Tryz.func128,Tryz.ntmps128
 go_wp2_with fail
 try rw [hy]
 have hr:=zTD y 0 n w hb.1 hb.2 (by omega) hn
 refine hr.mono ?_
 rintro e w1 ⟨rfl,rfl⟩
 clear hr hy
 go_wp2
 go_ret
 exact ⟨ret_i (by simp),rfl⟩
def EncPost (w:World) (e:Ending) (w':World):Prop:=∃ x r:Int,e=.returned (.tuple #[.int .u64 x,.int .i64 r])∧0≤x∧x≤18446744073709551615∧Grow w w'
theorem zbI (p:Pt) (w:World) (hk:p.kind≠1∧p.kind≠2∧p.kind≠3):Calls Tryz.prog 58 #[.agg #[.int .i64 p.kind,.int .i64 p.off,.int .i64 p.data,.int .i64 p.ptrs,.int .i64 p.size,.int .i64 p.count,.int .i64 p.seg,.bool p.dbl]] w (EncPost w):=by
 have HG:=LH ((Keep.refl NoB w).alloc (.cells #[.int .i64 p.kind,.int .i64 p.off,.int .i64 p.data,.int .i64 p.ptrs,.int .i64 p.size,.int .i64 p.count,.int .i64 p.seg,.bool p.dbl] 120))
 have HC:=LH (heap_alloc_new w (.cells #[.int .i64 p.kind,.int .i64 p.off,.int .i64 p.data,.int .i64 p.ptrs,.int .i64 p.size,.int .i64 p.count,.int .i64 p.seg,.bool p.dbl] 120))
 have k1:(p.kind==1)=false:=by rw [beq_eq_false_iff_ne];omega
 have k2:(p.kind==2)=false:=by rw [beq_eq_false_iff_ne];omega
 have k3:(p.kind==3)=false:=by rw [beq_eq_false_iff_ne];omega
 clear hk
 go_enter Tryz.func58,Tryz.ntmps58
 go_wp2_with fail
 refine (zXA _ _ ((⟨by omega,by omega⟩:(0:Int)≤0∧(0:Int)≤18446744073709551615)).1 ((⟨by omega,by omega⟩:(0:Int)≤0∧(0:Int)≤18446744073709551615)).2).mono ?_
 rintro e w9 ⟨rfl,hg9⟩
 replace HG:=LH (HG.out.grow hg9)
 replace HC:=LH (Grow.heap hg9 HC.out)
 have HXB:=LH ((⟨by omega,by omega⟩:(0:Int)≤0∧(0:Int)≤18446744073709551615))
 generalize ptrDec (0)=R at hg9 ⊢
 clear hg9
 obtain ⟨z0,z1,z2,z3,z4,z5,z6,z7,zf⟩:=zO HC.out
 have hlt9:=(gE HC.out).1
 have hne9:w9.heap.size≠w.heap.size:=by omega
 have hne8:w.heap.size≠w9.heap.size:=by omega
 go_wp2
 all_goals
  go_ret2
  refine ⟨_,_,rfl,?_,?_,HG.out.alloc _⟩ <;> first | exact HXB.out.1 | exact HXB.out.2 | omega
theorem zhG (p:Pt) (w:World) (hk:p.kind=1):Calls Tryz.prog 58 #[.agg #[.int .i64 p.kind,.int .i64 p.off,.int .i64 p.data,.int .i64 p.ptrs,.int .i64 p.size,.int .i64 p.count,.int .i64 p.seg,.bool p.dbl]] w (EncPost w):=by
 have HG:=LH ((Keep.refl NoB w).alloc (.cells #[.int .i64 p.kind,.int .i64 p.off,.int .i64 p.data,.int .i64 p.ptrs,.int .i64 p.size,.int .i64 p.count,.int .i64 p.seg,.bool p.dbl] 120))
 have HC:=LH (heap_alloc_new w (.cells #[.int .i64 p.kind,.int .i64 p.off,.int .i64 p.data,.int .i64 p.ptrs,.int .i64 p.size,.int .i64 p.count,.int .i64 p.seg,.bool p.dbl] 120))
 have k1:(p.kind==1)=true:=by rw [beq_iff_eq];omega
 have k2:(p.kind==2)=false:=by rw [beq_eq_false_iff_ne];omega
 have k3:(p.kind==3)=false:=by rw [beq_eq_false_iff_ne];omega
 clear hk
 go_enter Tryz.func58,Tryz.ntmps58
 go_wp2
 generalize w.alloc (.cells #[.int .i64 p.kind,.int .i64 p.off,.int .i64 p.data,.int .i64 p.ptrs,.int .i64 p.size,.int .i64 p.count,.int .i64 p.seg,.bool p.dbl] 120)=w1 at HG HC ⊢
 generalize w.heap.size=B at HC ⊢
 obtain ⟨z0,z1,z2,z3,z4,z5,z6,z7,zf⟩:=zO HC.out
 refine zD [0,1,4,5,9,10,2,3,6,7,8,11,12,13,14] [2,6,11,14] [1,5,10] [] rfl (by kernel_rfl) ?_
 refine ord_p ?_
 refine ord_r (y:=by intro w' hg;have q:=hg.cell z1 (fun h=>h);go_simp;with_reducible rfl) (z:=?_)
 refine ord_p ?_
 refine ord_r (y:=by intro w' hg;have q:=hg.cell z2 (fun h=>h);go_simp;with_reducible rfl) (z:=?_)
 refine ord_p ?_
 refine ord_r (y:=by intro w' hg;have q:=hg.cell z3 (fun h=>h);go_simp;with_reducible rfl) (z:=?_)
 refine zG rfl rfl rfl rfl rfl Tryz.func128 rfl rfl [.int .i64 p.off,.int .i64 30] rfl ?_
 refine (zCA p.off 30 _ (by omega)).mono ?_
 rintro e w' ⟨rfl,rfl⟩
 refine ⟨_,rfl,fun _=>Keep.refl _ _,?_⟩
 simp only [Act.put,pB,pC,pD]
 refine ord_p ?_
 refine zG rfl rfl rfl rfl rfl Tryz.func128 rfl rfl [.int .i64 p.data,.int .i64 16] rfl ?_
 refine (zCA p.data 16 _ (by omega)).mono ?_
 rintro e w' ⟨rfl,rfl⟩
 refine ⟨_,rfl,fun _=>Keep.refl _ _,?_⟩
 simp only [Act.put,pB,pC,pD]
 iterate 2
  refine ord_p ?_
 refine zG rfl rfl rfl rfl rfl Tryz.func128 rfl rfl [.int .i64 p.ptrs,.int .i64 16] rfl ?_
 refine (zCA p.ptrs 16 _ (by omega)).mono ?_
 rintro e w' ⟨rfl,rfl⟩
 refine ⟨_,rfl,fun _=>Keep.refl _ _,?_⟩
 simp only [Act.put,pB,pC,pD]
 iterate 2
  refine ord_p ?_
 refine ord_s ?_
 refine zF ?_
 replace HG:=LH HG.out.drew
 replace HC:=LH (show w1.drew.heap[_]? = _ from HC.out)
 clear z0 z1 z2 z3 z4 z5 z6 z7 zf
 generalize w1.drew=w2 at HG HC ⊢
 go_wp2_with fail
 generalize hX:4*(IntKind.u64.wrap p.off%1073741824)+IntKind.u64.wrap p.data%65536*4294967296+IntKind.u64.wrap p.ptrs%65536*281474976710656=X
 have hxx:0≤X∧X≤18446744073709551615:=by omega
 clear hX
 refine (zXA _ _ (hxx).1 (hxx).2).mono ?_
 rintro e w9 ⟨rfl,hg9⟩
 replace HG:=LH (HG.out.grow hg9)
 replace HC:=LH (Grow.heap hg9 HC.out)
 have HXB:=LH (hxx)
 generalize ptrDec (X)=R at hg9 ⊢
 clear hg9
 obtain ⟨z0,z1,z2,z3,z4,z5,z6,z7,zf⟩:=zO HC.out
 have hlt9:=(gE HC.out).1
 have hne9:w9.heap.size≠B:=by omega
 have hne8:B≠w9.heap.size:=by omega
 go_wp2
 all_goals
  go_ret2
  refine ⟨_,_,rfl,?_,?_,HG.out.alloc _⟩ <;> first | exact HXB.out.1 | exact HXB.out.2 | omega
theorem zcI (p:Pt) (w:World) (hk:p.kind=2):Calls Tryz.prog 58 #[.agg #[.int .i64 p.kind,.int .i64 p.off,.int .i64 p.data,.int .i64 p.ptrs,.int .i64 p.size,.int .i64 p.count,.int .i64 p.seg,.bool p.dbl]] w (EncPost w):=by
 have HG:=LH ((Keep.refl NoB w).alloc (.cells #[.int .i64 p.kind,.int .i64 p.off,.int .i64 p.data,.int .i64 p.ptrs,.int .i64 p.size,.int .i64 p.count,.int .i64 p.seg,.bool p.dbl] 120))
 have HC:=LH (heap_alloc_new w (.cells #[.int .i64 p.kind,.int .i64 p.off,.int .i64 p.data,.int .i64 p.ptrs,.int .i64 p.size,.int .i64 p.count,.int .i64 p.seg,.bool p.dbl] 120))
 have k1:(p.kind==1)=false:=by rw [beq_eq_false_iff_ne];omega
 have k2:(p.kind==2)=true:=by rw [beq_iff_eq];omega
 have k3:(p.kind==3)=false:=by rw [beq_eq_false_iff_ne];omega
 clear hk
 go_enter Tryz.func58,Tryz.ntmps58
 go_wp2
 generalize w.alloc (.cells #[.int .i64 p.kind,.int .i64 p.off,.int .i64 p.data,.int .i64 p.ptrs,.int .i64 p.size,.int .i64 p.count,.int .i64 p.seg,.bool p.dbl] 120)=w1 at HG HC ⊢
 generalize w.heap.size=B at HC ⊢
 obtain ⟨z0,z1,z2,z3,z4,z5,z6,z7,zf⟩:=zO HC.out
 refine zD [0,1,5,6,10,11,2,3,4,7,8,9,12,13,14,15] [2,7,12,15] [1,6,11] [] rfl (by kernel_rfl) ?_
 refine ord_p ?_
 refine ord_r (y:=by intro w' hg;have q:=hg.cell z1 (fun h=>h);go_simp;with_reducible rfl) (z:=?_)
 refine ord_p ?_
 refine ord_r (y:=by intro w' hg;have q:=hg.cell z4 (fun h=>h);go_simp;with_reducible rfl) (z:=?_)
 refine ord_p ?_
 refine ord_r (y:=by intro w' hg;have q:=hg.cell z5 (fun h=>h);go_simp;with_reducible rfl) (z:=?_)
 refine zG rfl rfl rfl rfl rfl Tryz.func128 rfl rfl [.int .i64 p.off,.int .i64 30] rfl ?_
 refine (zCA p.off 30 _ (by omega)).mono ?_
 rintro e w' ⟨rfl,rfl⟩
 refine ⟨_,rfl,fun _=>Keep.refl _ _,?_⟩
 simp only [Act.put,pB,pC,pD]
 iterate 2
  refine ord_p ?_
 refine zG rfl rfl rfl rfl rfl Tryz.func128 rfl rfl [.int .i64 p.size,.int .i64 3] rfl ?_
 refine (zCA p.size 3 _ (by omega)).mono ?_
 rintro e w' ⟨rfl,rfl⟩
 refine ⟨_,rfl,fun _=>Keep.refl _ _,?_⟩
 simp only [Act.put,pB,pC,pD]
 iterate 2
  refine ord_p ?_
 refine zG rfl rfl rfl rfl rfl Tryz.func128 rfl rfl [.int .i64 p.count,.int .i64 29] rfl ?_
 refine (zCA p.count 29 _ (by omega)).mono ?_
 rintro e w' ⟨rfl,rfl⟩
 refine ⟨_,rfl,fun _=>Keep.refl _ _,?_⟩
 simp only [Act.put,pB,pC,pD]
 iterate 2
  refine ord_p ?_
 refine ord_s ?_
 refine zF ?_
 replace HG:=LH HG.out.drew
 replace HC:=LH (show w1.drew.heap[_]? = _ from HC.out)
 clear z0 z1 z2 z3 z4 z5 z6 z7 zf
 generalize w1.drew=w2 at HG HC ⊢
 go_wp2_with fail
 generalize hX:1+4*(IntKind.u64.wrap p.off%1073741824)+IntKind.u64.wrap p.size%8*4294967296+IntKind.u64.wrap p.count%536870912*34359738368=X
 have hxx:0≤X∧X≤18446744073709551615:=by omega
 clear hX
 refine (zXA _ _ (hxx).1 (hxx).2).mono ?_
 rintro e w9 ⟨rfl,hg9⟩
 replace HG:=LH (HG.out.grow hg9)
 replace HC:=LH (Grow.heap hg9 HC.out)
 have HXB:=LH (hxx)
 generalize ptrDec (X)=R at hg9 ⊢
 clear hg9
 obtain ⟨z0,z1,z2,z3,z4,z5,z6,z7,zf⟩:=zO HC.out
 have hlt9:=(gE HC.out).1
 have hne9:w9.heap.size≠B:=by omega
 have hne8:B≠w9.heap.size:=by omega
 go_wp2
 all_goals
  go_ret2
  refine ⟨_,_,rfl,?_,?_,HG.out.alloc _⟩ <;> first | exact HXB.out.1 | exact HXB.out.2 | omega
theorem zdI (p:Pt) (w:World) (hk:p.kind=3∧p.dbl=false):Calls Tryz.prog 58 #[.agg #[.int .i64 p.kind,.int .i64 p.off,.int .i64 p.data,.int .i64 p.ptrs,.int .i64 p.size,.int .i64 p.count,.int .i64 p.seg,.bool p.dbl]] w (EncPost w):=by
 have HG:=LH ((Keep.refl NoB w).alloc (.cells #[.int .i64 p.kind,.int .i64 p.off,.int .i64 p.data,.int .i64 p.ptrs,.int .i64 p.size,.int .i64 p.count,.int .i64 p.seg,.bool p.dbl] 120))
 have HC:=LH (heap_alloc_new w (.cells #[.int .i64 p.kind,.int .i64 p.off,.int .i64 p.data,.int .i64 p.ptrs,.int .i64 p.size,.int .i64 p.count,.int .i64 p.seg,.bool p.dbl] 120))
 have k1:(p.kind==1)=false:=by rw [beq_eq_false_iff_ne];omega
 have k2:(p.kind==2)=false:=by rw [beq_eq_false_iff_ne];omega
 have k3:(p.kind==3)=true:=by rw [beq_iff_eq];omega
 have HDB:=LH hk.2
 clear hk
 go_enter Tryz.func58,Tryz.ntmps58
 go_wp2
 generalize w.alloc (.cells #[.int .i64 p.kind,.int .i64 p.off,.int .i64 p.data,.int .i64 p.ptrs,.int .i64 p.size,.int .i64 p.count,.int .i64 p.seg,.bool p.dbl] 120)=w1 at HG HC ⊢
 generalize w.heap.size=B at HC ⊢
 obtain ⟨z0,z1,z2,z3,z4,z5,z6,z7,zf⟩:=zO HC.out
 refine zD [0,1,5,6,2,3,4,7,8,9,10] [2,7,10] [1,6] [] rfl (by kernel_rfl) ?_
 refine ord_p ?_
 refine ord_r (y:=by intro w' hg;have q:=hg.cell z1 (fun h=>h);go_simp;with_reducible rfl) (z:=?_)
 refine ord_p ?_
 refine ord_r (y:=by intro w' hg;have q:=hg.cell z6 (fun h=>h);go_simp;with_reducible rfl) (z:=?_)
 refine zG rfl rfl rfl rfl rfl Tryz.func128 rfl rfl [.int .i64 p.off,.int .i64 29] rfl ?_
 refine (zCA p.off 29 _ (by omega)).mono ?_
 rintro e w' ⟨rfl,rfl⟩
 refine ⟨_,rfl,fun _=>Keep.refl _ _,?_⟩
 simp only [Act.put,pB,pC,pD]
 iterate 2
  refine ord_p ?_
 refine zG rfl rfl rfl rfl rfl Tryz.func128 rfl rfl [.int .i64 p.seg,.int .i64 32] rfl ?_
 refine (zCA p.seg 32 _ (by omega)).mono ?_
 rintro e w' ⟨rfl,rfl⟩
 refine ⟨_,rfl,fun _=>Keep.refl _ _,?_⟩
 simp only [Act.put,pB,pC,pD]
 iterate 2
  refine ord_p ?_
 refine ord_s ?_
 refine zF ?_
 replace HG:=LH HG.out.drew
 replace HC:=LH (show w1.drew.heap[_]? = _ from HC.out)
 clear z0 z1 z2 z3 z4 z5 z6 z7 zf
 generalize w1.drew=w2 at HG HC ⊢
 have z7:=(zO HC.out).2.2.2.2.2.2.2.1
 rw [HDB.out] at z7
 go_wp2_with fail
 generalize hX:2+8*(IntKind.u64.wrap p.off%536870912)+IntKind.u64.wrap p.seg%4294967296*4294967296=X
 have hxx:0≤X∧X≤18446744073709551615:=by omega
 clear hX
 refine (zXA _ _ (hxx).1 (hxx).2).mono ?_
 rintro e w9 ⟨rfl,hg9⟩
 replace HG:=LH (HG.out.grow hg9)
 replace HC:=LH (Grow.heap hg9 HC.out)
 have HXB:=LH (hxx)
 generalize ptrDec (X)=R at hg9 ⊢
 clear hg9
 obtain ⟨z0,z1,z2,z3,z4,z5,z6,z7,zf⟩:=zO HC.out
 have hlt9:=(gE HC.out).1
 have hne9:w9.heap.size≠B:=by omega
 have hne8:B≠w9.heap.size:=by omega
 go_wp2
 all_goals
  go_ret2
  refine ⟨_,_,rfl,?_,?_,HG.out.alloc _⟩ <;> first | exact HXB.out.1 | exact HXB.out.2 | omega
theorem zeI (p:Pt) (w:World) (hk:p.kind=3∧p.dbl=true):Calls Tryz.prog 58 #[.agg #[.int .i64 p.kind,.int .i64 p.off,.int .i64 p.data,.int .i64 p.ptrs,.int .i64 p.size,.int .i64 p.count,.int .i64 p.seg,.bool p.dbl]] w (EncPost w):=by
 have HG:=LH ((Keep.refl NoB w).alloc (.cells #[.int .i64 p.kind,.int .i64 p.off,.int .i64 p.data,.int .i64 p.ptrs,.int .i64 p.size,.int .i64 p.count,.int .i64 p.seg,.bool p.dbl] 120))
 have HC:=LH (heap_alloc_new w (.cells #[.int .i64 p.kind,.int .i64 p.off,.int .i64 p.data,.int .i64 p.ptrs,.int .i64 p.size,.int .i64 p.count,.int .i64 p.seg,.bool p.dbl] 120))
 have k1:(p.kind==1)=false:=by rw [beq_eq_false_iff_ne];omega
 have k2:(p.kind==2)=false:=by rw [beq_eq_false_iff_ne];omega
 have k3:(p.kind==3)=true:=by rw [beq_iff_eq];omega
 have HDB:=LH hk.2
 clear hk
 go_enter Tryz.func58,Tryz.ntmps58
 go_wp2
 generalize w.alloc (.cells #[.int .i64 p.kind,.int .i64 p.off,.int .i64 p.data,.int .i64 p.ptrs,.int .i64 p.size,.int .i64 p.count,.int .i64 p.seg,.bool p.dbl] 120)=w1 at HG HC ⊢
 generalize w.heap.size=B at HC ⊢
 obtain ⟨z0,z1,z2,z3,z4,z5,z6,z7,zf⟩:=zO HC.out
 refine zD [0,1,5,6,2,3,4,7,8,9,10] [2,7,10] [1,6] [] rfl (by kernel_rfl) ?_
 refine ord_p ?_
 refine ord_r (y:=by intro w' hg;have q:=hg.cell z1 (fun h=>h);go_simp;with_reducible rfl) (z:=?_)
 refine ord_p ?_
 refine ord_r (y:=by intro w' hg;have q:=hg.cell z6 (fun h=>h);go_simp;with_reducible rfl) (z:=?_)
 refine zG rfl rfl rfl rfl rfl Tryz.func128 rfl rfl [.int .i64 p.off,.int .i64 29] rfl ?_
 refine (zCA p.off 29 _ (by omega)).mono ?_
 rintro e w' ⟨rfl,rfl⟩
 refine ⟨_,rfl,fun _=>Keep.refl _ _,?_⟩
 simp only [Act.put,pB,pC,pD]
 iterate 2
  refine ord_p ?_
 refine zG rfl rfl rfl rfl rfl Tryz.func128 rfl rfl [.int .i64 p.seg,.int .i64 32] rfl ?_
 refine (zCA p.seg 32 _ (by omega)).mono ?_
 rintro e w' ⟨rfl,rfl⟩
 refine ⟨_,rfl,fun _=>Keep.refl _ _,?_⟩
 simp only [Act.put,pB,pC,pD]
 iterate 2
  refine ord_p ?_
 refine ord_s ?_
 refine zF ?_
 replace HG:=LH HG.out.drew
 replace HC:=LH (show w1.drew.heap[_]? = _ from HC.out)
 clear z0 z1 z2 z3 z4 z5 z6 z7 zf
 generalize w1.drew=w2 at HG HC ⊢
 have z7:=(zO HC.out).2.2.2.2.2.2.2.1
 rw [HDB.out] at z7
 go_wp2_with fail
 generalize hX:2+8*(IntKind.u64.wrap p.off%536870912)+IntKind.u64.wrap p.seg%4294967296*4294967296+4=X
 have hxx:0≤X∧X≤18446744073709551615:=by omega
 clear hX
 refine (zXA _ _ (hxx).1 (hxx).2).mono ?_
 rintro e w9 ⟨rfl,hg9⟩
 replace HG:=LH (HG.out.grow hg9)
 replace HC:=LH (Grow.heap hg9 HC.out)
 have HXB:=LH (hxx)
 generalize ptrDec (X)=R at hg9 ⊢
 clear hg9
 obtain ⟨z0,z1,z2,z3,z4,z5,z6,z7,zf⟩:=zO HC.out
 have hlt9:=(gE HC.out).1
 have hne9:w9.heap.size≠B:=by omega
 have hne8:B≠w9.heap.size:=by omega
 go_wp2
 all_goals
  go_ret2
  refine ⟨_,_,rfl,?_,?_,HG.out.alloc _⟩ <;> first | exact HXB.out.1 | exact HXB.out.2 | omega
theorem zLA (p:Pt) (w:World):Calls Tryz.prog 58 #[.agg #[.int .i64 p.kind,.int .i64 p.off,.int .i64 p.data,.int .i64 p.ptrs,.int .i64 p.size,.int .i64 p.count,.int .i64 p.seg,.bool p.dbl]] w (EncPost w):=by
 by_cases h1:p.kind=1
 ·exact zhG p w h1
 by_cases h2:p.kind=2
 ·exact zcI p w h2
 by_cases h3:p.kind=3
 ·rcases hd:p.dbl with _ | _
  ·have:=zdI p w ⟨h3,hd⟩;rwa [hd] at this
  ·have:=zeI p w ⟨h3,hd⟩;rwa [hd] at this
 exact zbI p w ⟨h1,h2,h3⟩
theorem zOB:(Tryz.prog.info? 111).map (fun i=>(i.zero,i.size,i.bytes))=some (some (.slice none 0 0),1,24):=by kernel_rfl
theorem zw:Tryz.prog.underlying 111=some (.slice 22):=by kernel_rfl
theorem zwA:Tryz.prog.underlying 29=some (.slice 111):=by kernel_rfl
def UnA (A:Option Addr) (n:Nat) (w:World):Prop:=n≠0→∀ ad,A=some ad→ad.block<w.heap.size∧∀ o,w.frozen? ⟨ad.block,o,none⟩=false
theorem UnA.grow {A:Option Addr} {n:Nat} {w w':World} (h:UnA A n w) (hg:Grow w w'):UnA A n w':=fun hn ad e=>⟨Nat.lt_of_lt_of_le (h hn ad e).1 hg.size,fun o=>(hg.frozen (p:=⟨ad.block,o,none⟩) (h hn ad e).1 (fun h=>h)).trans ((h hn ad e).2 o)⟩
theorem Foot.of_ownU {base e size n c:Nat} {A:Option Addr} {xs:List Value} {w:World} (h:w.ownsRow base e size (.slice A n c) n xs):Foot (fun u=>SliceR size (.slice A n c) n xs u∧UnA A n u) w (fun k=>(Value.slice A n c).ownBlock=some k):=by
 refine ⟨fun k hk=>(h.lt k hk).2,fun W' hW=>⟨(Foot.of_own h).2 W' hW,fun hn ad hA=>?_⟩⟩
 obtain ⟨k,cap,e1,hk,_,_⟩:=zMA h (by omega)
 injection e1 with e1 _ e3
 subst e1
 subst e3
 injection hA with hA
 subst hA
 have hlt:=(h.lt k hk).2
 have he:=hW k hk
 refine ⟨?_,fun o=>?_⟩
 ·show k<W'.heap.size
  rcases Nat.lt_or_ge k W'.heap.size with h9 | h9
  ·exact h9
  ·rw [Array.getElem?_eq_none h9,Array.getElem?_eq_getElem hlt] at he;cases he
 ·rw [World.frozen?_of_block (w:=w) he]
  exact h.frozenAt _
def HdR (a:List (List Int)) (vs:List Value) (w:World):Prop:=vs.length=a.length∧∀ i (h:i<a.length),∃ A c,vs[i]? = some (.slice A a[i].length c)∧SliceR 1 (.slice A a[i].length c) a[i].length (u64s a[i]) w∧UnA A a[i].length w
def RowsU (a:List (List Int)) (v:Value) (w:World):Prop :=
 ∃ A c,v=.slice A a.length c∧∀ i (h:i<a.length),∃ ad A' c',A=some ad∧w.cell? (ad.add i)=some (.slice A' a[i].length c')∧SliceR 1 (.slice A' a[i].length c') a[i].length (u64s a[i]) w∧UnA A' a[i].length w
theorem RowsU.rows {a:List (List Int)} {v:Value} {w:World} (h:RowsU a v w):RowsR .u64 a v w:=by
 obtain ⟨A,c,e,hr⟩:=h
 exact ⟨A,c,e,fun i hi=>by
  obtain ⟨ad,A',c',h1,h2,h3,_⟩:=hr i hi
  exact ⟨ad,A',c',h1,h2,h3⟩⟩
theorem RowsU.at_ {a:List (List Int)} {A:Option Addr} {c:Nat} {w:World} (h:RowsU a (.slice A a.length c) w) (i:Nat) (hi:i<a.length):∃ ad A' c',A=some ad∧w.cell? (ad.add i)=some (.slice A' a[i].length c')∧SliceR 1 (.slice A' a[i].length c') a[i].length (u64s a[i]) w∧UnA A' a[i].length w:=by
 obtain ⟨A9,c9,e,hr⟩:=h
 injection e with e1 _ e3
 subst e1
 exact hr i hi
theorem RowsU.grow {a:List (List Int)} {v:Value} {w w':World} (h:RowsU a v w) (hg:Grow w w'):RowsU a v w':=by
 obtain ⟨A,c,e,hr⟩:=h
 exact ⟨A,c,e,fun i hi=>by
  obtain ⟨ad,A',c',h1,h2,h3,h4⟩:=hr i hi
  exact ⟨ad,A',c',h1,hg.cell h2 (fun h=>h),h3.grow hg,h4.grow hg⟩⟩
theorem HdR.grow {a:List (List Int)} {vs:List Value} {w w':World} (h:HdR a vs w) (hg:Grow w w'):HdR a vs w':=⟨h.1,fun i hi=>by
 obtain ⟨A,c,h1,h2,h3⟩:=h.2 i hi
 exact ⟨A,c,h1,h2.grow hg,h3.grow hg⟩⟩
theorem HdR.one {a:List (List Int)} {vs:List Value} {w:World} (h:HdR a vs w):∀ u∈vs,u.oneCell'=true:=fun u hu=>by
 obtain ⟨i,hi,rfl⟩:=List.getElem_of_mem hu
 obtain ⟨A,c,h1,_⟩:=h.2 i (by have:=h.1;omega)
 rw [List.getElem?_eq_getElem hi] at h1
 injection h1 with h1
 rw [h1];rfl
theorem RowsU.heads {a:List (List Int)} {A:Option Addr} {c:Nat} {w:World} (h:RowsU a (.slice A a.length c) w):∃ vs,HdR a vs w∧∀ j u,vs[j]? = some u→∃ ad,A=some ad∧w.cell? (ad.add j)=some u:=by
 have hq:∀ n,n≤a.length→∃ vs:List Value,vs.length=n∧∀ i (hi:i<n),∃ ad A' c',A=some ad∧vs[i]? = some (.slice A' (a.getD i []).length c')∧w.cell? (ad.add i)=some (.slice A' (a.getD i []).length c')∧SliceR 1 (.slice A' (a.getD i []).length c') (a.getD i []).length (u64s (a.getD i [])) w∧UnA A' (a.getD i []).length w:=by
  intro n
  induction n with
  | zero=>exact fun _=>⟨[],rfl,fun i hi=>by omega⟩
  | succ n ih =>
   intro hn
   obtain ⟨vs,hl,hv⟩:=ih (by omega)
   obtain ⟨ad,A',c',h1,h2,h3,h4⟩:=RowsU.at_ h n (by omega)
   have hg:a.getD n []=a[n]:=by simp [show n<a.length by omega]
   refine ⟨vs++[.slice A' a[n].length c'],by simp [hl],fun i hi=>?_⟩
   by_cases hin:i<n
   ·obtain ⟨ad2,A2,c2,k1,k2,k3,k4⟩:=hv i hin
    exact ⟨ad2,A2,c2,k1,by rw [List.getElem?_append_left (by omega)];exact k2,k3,k4⟩
   ·obtain rfl:i=n:=by omega
    rw [hg]
    exact ⟨ad,A',c',h1,by rw [List.getElem?_append_right (by omega)];simp [hl],h2,h3,h4⟩
 obtain ⟨vs,hl,hv⟩:=hq a.length (Nat.le_refl _)
 refine ⟨vs,⟨hl,fun i hi=>?_⟩,fun j u hu=>?_⟩
 ·obtain ⟨ad,A',c',k1,k2,k3,k4,k5⟩:=hv i hi
  have hg:a.getD i []=a[i]:=by simp [hi]
  rw [hg] at k2 k4 k5
  exact ⟨A',c',k2,k4,k5⟩
 ·have hj:j<a.length:=by have:=(List.getElem?_eq_some_iff.1 hu).1;omega
  obtain ⟨ad,A',c',k1,k2,k3,k4⟩:=hv j hj
  rw [k2] at hu
  injection hu with hu
  exact ⟨ad,k1,by rw [k3,hu]⟩
theorem RowsU.of_own {base:Nat} {a:List (List Int)} {vs:List Value} {A:Option Addr} {c:Nat} {w:World} (ho:w.ownsRow base 111 1 (.slice A a.length c) a.length vs) (h:HdR a vs w):RowsU a (.slice A a.length c) w:=by
 obtain ⟨A9,c9,e9,_,_,_,hcs⟩:=SliceR.of_own ho
 injection e9 with e9
 refine ⟨A,c,rfl,fun i hi=>?_⟩
 obtain ⟨A',c',h1,h2⟩:=h.2 i hi
 obtain ⟨ad,had,hc⟩:=hcs i _ h1
 exact ⟨ad,A',c',e9.trans had,hc,h2⟩
theorem RowsR.src {a:List (List Int)} {vs:List Value} {A:Option Addr} {c:Nat} {w:World} (h:HdR a vs w) (hc:∀ j u,vs[j]? = some u→∃ ad,A=some ad∧w.cell? (ad.add j)=some u):Src Tryz.prog 1 29 (.slice A a.length c) a.length vs w:=by
 cases A with
 | none =>
  have h0:vs=[]:=by
   cases vs with
   | nil=>rfl
   | cons x r=>obtain ⟨ad,e,_⟩:=hc 0 x rfl;cases e
  have h1:=h.1
  rw [h0] at h1 ⊢
  have h2:a.length=0:=h1.symm
  rw [h2]
  exact Src.ofNil w zwA c
 | some ad =>
  refine Src.ofSlice w zwA ad a.length c vs (by rw [h.1,Nat.mul_one]) (fun j u hu=>?_) h.one
  obtain ⟨ad',e,hc'⟩:=hc j u hu
  injection e with e
  rw [e];exact hc'
theorem RowsU.of_slice {a:List (List Int)} {vs:List Value} {A:Option Addr} {c:Nat} {w:World} (ho:SliceR 1 (.slice A a.length c) a.length vs w) (h:HdR a vs w):RowsU a (.slice A a.length c) w:=by
 obtain ⟨A9,c9,e9,_,_,_,hcs⟩:=ho
 injection e9 with e9
 refine ⟨A,c,rfl,fun i hi=>?_⟩
 obtain ⟨A',c',h1,h2⟩:=h.2 i hi
 obtain ⟨ad,had,hc⟩:=hcs i _ h1
 exact ⟨ad,A',c',e9.trans had,hc,h2⟩
def NewF (F:Nat→Prop) (w w':World) (k:Nat):Prop:=F k∨(w.heap.size≤k∧k<w'.heap.size)
theorem RowsU.headsF {a:List (List Int)} {A:Option Addr} {c:Nat} {w:World} {F:Nat→Prop} (h:Foot (RowsU a (.slice A a.length c)) w F):∃ vs,Foot (HdR a vs) w F∧∀ j u,vs[j]? = some u→∃ ad,A=some ad∧w.cell? (ad.add j)=some u:=by
 obtain ⟨vs,hv,hc⟩:=h.now.heads
 refine ⟨vs,⟨h.1,fun W' hW=>⟨hv.1,fun i hi=>?_⟩⟩,hc⟩
 obtain ⟨A0,c0,h1,_⟩:=hv.2 i hi
 obtain ⟨ad,hA,hcell⟩:=hc i _ h1
 have hm:F (ad.add i).block:=Foot.cell_mem (p:=ad.add i) h (fun W2 h2=>by
  obtain ⟨ad2,A2,c2,e2,k2,_⟩:=RowsU.at_ h2 i hi
  rw [hA] at e2
  injection e2 with e2
  subst e2
  exact ⟨_,k2⟩)
 obtain ⟨ad2,A2,c2,e2,k2,k3⟩:=RowsU.at_ (h.2 W' hW) i hi
 rw [hA] at e2
 injection e2 with e2
 subst e2
 have he:W'.cell? (ad.add i)=w.cell? (ad.add i):=by unfold World.cell?;rw [hW _ hm]
 rw [he,hcell] at k2
 injection k2 with k2
 exact ⟨A2,c2,by rw [h1,k2],k3⟩
theorem HdR.set {a:List (List Int)} {vs:List Value} {w:World} (h:HdR a vs w) (i:Nat) (hi:i<a.length) (s:List Int) (A:Option Addr) (c:Nat) (hs:SliceR 1 (.slice A s.length c) s.length (u64s s) w) (hU:UnA A s.length w):HdR (a.set i s) (vs.set i (.slice A s.length c)) w:=by
 refine ⟨by rw [List.length_set,List.length_set];exact h.1,fun j hj=>?_⟩
 rw [List.length_set] at hj
 by_cases e:i=j
 ·subst e
  have h1:=h.1
  exact ⟨A,c,by rw [List.getElem?_set_self (by omega)];simp,by simpa using hs,by simpa using hU⟩
 ·obtain ⟨A',c',k1,k2,k3⟩:=h.2 j hj
  exact ⟨A',c',by rw [List.getElem?_set_ne e];simpa [List.getElem_set_ne e] using k1,by simpa [List.getElem_set_ne e] using k2,by simpa [List.getElem_set_ne e] using k3⟩
theorem zgJ (l:List Int) (i:Nat) (x:Int):(u64s l).set i (.int .u64 x)=u64s (l.set i x):=by
 unfold u64s;exact List.map_set.symm
theorem zOC (a:List (List Int)) (A:Option Addr) (c:Nat) (size:Int) (full:Bool) (seg i:Nat) (x:Int) (hs:seg<a.length) (hi:i<a[seg].length) (hla:a.length≤1000000) (hls:a[seg].length≤1000000) (w:World) {F:Nat→Prop} (hF:Foot (RowsU a (.slice A a.length c)) w F) :
    Calls Tryz.prog 194 #[.agg #[.slice A a.length c,.int .i64 size,.bool full],.int .i64 seg,.int .i64 i,.int .u64 x] w fun e w'=>∃ A' c',e=.returned (.agg #[.slice A' a.length c',.int .i64 size,.bool full])∧Grow w w'∧Foot (RowsU (a.set seg (a[seg].set i x)) (.slice A' a.length c')) w' (NewF F w w'):=by
 obtain ⟨vs,hvF,hcs⟩:=RowsU.headsF hF
 have hvs:=hvF.now
 have HVF:=LH hvF
 have hh:=zU w (.cells #[.slice A a.length c,.int .i64 size,.bool full] 197) (.cells #[.slice none 0 0,.int .i64 0,.bool false] 197)
 have HB0:=LH hh.1
 have HB1:=LH hh.2.1
 have HG:=LH hh.2.2
 have HV:=LH hvs
 have HCS:=LH hcs
 have hlt':(seg:Int)<a.length:=by omega
 have hit':(i:Int)<a[seg].length:=by omega
 obtain ⟨A1,c1,hv1,hsl,_⟩:=hvs.2 seg hs
 have HSL:=LH hsl
 have HV1:=LH hv1
 obtain ⟨n,hn⟩:∃ n,a.length=n:=⟨_,rfl⟩
 obtain ⟨m,hm⟩:∃ m,a[seg].length=m:=⟨_,rfl⟩
 have HN:=LH hn
 have HM:=LH hm
 have HSRC:=LH (RowsR.src (c:=c) (hvs.grow hh.2.2) (fun j u hu=>by
  obtain ⟨ad,e1,e2⟩:=hcs j u hu
  exact ⟨ad,e1,hh.2.2.cell e2 (fun h=>h)⟩))
 rw [hn] at HB0 HB1 HG HSRC hla hlt' ⊢
 rw [hm] at hls hit'
 clear hF hvF hh hvs hcs hsl hv1 hn hm
 go_enter Tryz.func194,Tryz.ntmps194
 go_wp2_with (at_builtin;refine zL _ rfl _ _ 29 29 rfl w.heap.size 111 (.slice none 0 0) 1 24 zwA zOB rfl (.slice none 0 0) 0 [] rfl (.slice A n c) n vs rfl ?_ ?c0 ?c1 ?c2 ?c3 ?c4;intro v' w2 hap;refine Hid.out ?_)
 case c0=>exact World.ownsRow_nil _ _ _ _
 case c1=>exact HSRC.out
 case c2=>simp only [maxLen];omega
 case c3=>omega
 case c4=>simp;omega
 refine LH ?_
 have ho:=hap.own
 simp only [Nat.zero_add,List.nil_append] at ho
 have hg2:=HG.out.grown hap.grew (by simp [Value.ownBlock])
 have hgx:=(Keep.refl NoB ((w.alloc (.cells #[.slice A n c,.int .i64 size,.bool full] 197)).alloc (.cells #[.slice none 0 0,.int .i64 0,.bool false] 197))).grown hap.grew (by simp [Value.ownBlock])
 have hb0:=Grow.heap hgx HB0.out
 have hb1:=Grow.heap hgx HB1.out
 obtain ⟨r1,k1,e1,hr1,_,hcells1⟩:=zMA ho (by omega)
 subst e1
 have hr1b:=zo hap r1 hr1
 have q1:w2.cell? ⟨r1,seg,none⟩=some (.slice A1 m c1):=by
  have:=hcells1 seg _ HV1.out
  rw [HM.out] at this
  simpa using this
 have hr1n:w.heap.size+2≤r1:=by
  rcases hr1b with h | h
  ·simp [Value.ownBlock] at h
  ·have h2:r1=w.heap.size+1+1:=by simpa using h
   omega
 have hsrc2:Src Tryz.prog 1 111 (.slice A1 m c1) m (u64s a[seg]) w2:=by
  have:=(HSL.out.grow hg2).src (tx:=111) zw (zlA _)
  rw [HM.out] at this
  exact this
 have HS2:=LH hsrc2
 have HO:=LH ho
 have HG2:=LH hg2
 have HB0':=LH hb0
 have HB1':=LH hb1
 clear hap ho hg2 hgx hb0 hb1 hcells1 hr1 hr1b hsrc2
 clear HSRC HB0 HB1 HG
 go_wp2_with (at_builtin;refine zL _ rfl _ _ 111 111 rfl w2.heap.size 22 (.int .u64 0) 1 8 zw ze rfl (.slice none 0 0) 0 [] rfl (.slice A1 m c1) m (u64s a[seg]) rfl ?_ ?d0 ?d1 ?d2 ?d3 ?d4;intro v' w3 hap;refine Hid.out ?_)
 case d0=>exact World.ownsRow_nil _ _ _ _
 case d1=>exact HS2.out
 case d2=>simp only [maxLen];omega
 case d3=>omega
 case d4=>simp
 refine LH ?_
 have ho:=hap.own
 simp only [Nat.zero_add,List.nil_append] at ho
 have hgx:=(Keep.refl NoB w2).grown hap.grew (by simp [Value.ownBlock])
 obtain ⟨r2,k2,e2,hr2,_,hcells2⟩:=zMA ho (by omega)
 subst e2
 have hr2b:w2.heap.size≤r2:=(ho.lt r2 hr2).1
 have hr1l:r1<w2.heap.size:=(HO.out.lt r1 rfl).2
 have hl64:(u64s a[seg]).length=m:=by rw [← HM.out];simp [u64s]
 obtain ⟨u0,q2⟩:∃ u0,w3.cell? ⟨r2,i,none⟩=some u0:=⟨_,by simpa using hcells2 i _ (List.getElem?_eq_getElem (by omega))⟩
 have q2f:w3.frozen? ⟨r2,i,none⟩=false:=ho.frozenAt _
 have hst2:=ho.stored i (.int .u64 x)
 rw [zgJ] at hst2
 have hO3:=zE (zE HO.out hgx (fun _ _ h=>h)) (zV r2 i w3 (.int .u64 x)) (fun k hk e=>by cases hk;exact absurd e (show ¬ r1=r2 by omega))
 have q3:(w3.setCell ⟨r2,i,none⟩ (.int .u64 x)).cell? ⟨r1,seg,none⟩=some (.slice A1 m c1):=(zV r2 i w3 (.int .u64 x)).cell (hgx.cell q1 (fun h=>h)) (by show ¬ r1=r2;omega)
 have q3f:(w3.setCell ⟨r2,i,none⟩ (.int .u64 x)).frozen? ⟨r1,seg,none⟩=false:=hO3.frozenAt _
 have hst1:=hO3.stored seg (.slice (some ⟨r2,0,none⟩) m k2)
 have hs2':=zE hst2.1 (zV r1 seg _ (.slice (some ⟨r2,0,none⟩) m k2)) (fun k hk e=>by cases hk;exact absurd e (show ¬ r2=r1 by omega))
 have HG4:Hid (Grow w ((w3.setCell ⟨r2,i,none⟩ (.int .u64 x)).setCell ⟨r1,seg,none⟩ (.slice (some ⟨r2,0,none⟩) m k2))) :=
  LH (((HG2.out.grow hgx).setCell (p:=⟨r2,i,none⟩) (.inr (by show w.heap.size≤r2;omega)) _).setCell (p:=⟨r1,seg,none⟩) (.inr (by show w.heap.size≤r1;omega)) _)
 have hK5:Keep (fun k=>k=w.heap.size∨k=w.heap.size+1) ((w3.setCell ⟨r2,i,none⟩ (.int .u64 x)).setCell ⟨r1,seg,none⟩ (.slice (some ⟨r2,0,none⟩) m k2)) ((((((w3.setCell ⟨r2,i,none⟩ (.int .u64 x)).setCell ⟨r1,seg,none⟩ (.slice (some ⟨r2,0,none⟩) m k2)).setCell ⟨w.heap.size,0,none⟩ (.slice (some ⟨r1,0,none⟩) n k1)).setCell ⟨w.heap.size+1,0,none⟩ (.slice (some ⟨r1,0,none⟩) n k1)).setCell ⟨w.heap.size+1,1,none⟩ (.int .i64 size)).setCell ⟨w.heap.size+1,2,none⟩ (.bool full)) :=
  ((((Keep.refl (fun k=>k=w.heap.size∨k=w.heap.size+1) ((w3.setCell ⟨r2,i,none⟩ (.int .u64 x)).setCell ⟨r1,seg,none⟩ (.slice (some ⟨r2,0,none⟩) m k2))).setCell (p:=⟨w.heap.size,0,none⟩) (.inl (.inl rfl)) _).setCell (p:=⟨w.heap.size+1,0,none⟩) (.inl (.inr rfl)) _).setCell (p:=⟨w.heap.size+1,1,none⟩) (.inl (.inr rfl)) _).setCell (p:=⟨w.heap.size+1,2,none⟩) (.inl (.inr rfl)) _
 have HG5:Hid (Grow w ((((((w3.setCell ⟨r2,i,none⟩ (.int .u64 x)).setCell ⟨r1,seg,none⟩ (.slice (some ⟨r2,0,none⟩) m k2)).setCell ⟨w.heap.size,0,none⟩ (.slice (some ⟨r1,0,none⟩) n k1)).setCell ⟨w.heap.size+1,0,none⟩ (.slice (some ⟨r1,0,none⟩) n k1)).setCell ⟨w.heap.size+1,1,none⟩ (.int .i64 size)).setCell ⟨w.heap.size+1,2,none⟩ (.bool full))):=LH (HG4.out.trans hK5 (fun j hj=>.inr (by omega)))
 have hz:=zI (Grow.heap hgx HB0'.out)
 have hy:=zI (Grow.heap hgx HB1'.out)
 obtain ⟨z0,z1,z2,zf⟩:=hz
 obtain ⟨y0,y1,y2,yf⟩:=hy
 have HRR:Hid (Foot (RowsU (a.set seg (a[seg].set i x)) (.slice (some ⟨r1,0,none⟩) n k1)) ((((((w3.setCell ⟨r2,i,none⟩ (.int .u64 x)).setCell ⟨r1,seg,none⟩ (.slice (some ⟨r2,0,none⟩) m k2)).setCell ⟨w.heap.size,0,none⟩ (.slice (some ⟨r1,0,none⟩) n k1)).setCell ⟨w.heap.size+1,0,none⟩ (.slice (some ⟨r1,0,none⟩) n k1)).setCell ⟨w.heap.size+1,1,none⟩ (.int .i64 size)).setCell ⟨w.heap.size+1,2,none⟩ (.bool full)) (NewF F w ((((((w3.setCell ⟨r2,i,none⟩ (.int .u64 x)).setCell ⟨r1,seg,none⟩ (.slice (some ⟨r2,0,none⟩) m k2)).setCell ⟨w.heap.size,0,none⟩ (.slice (some ⟨r1,0,none⟩) n k1)).setCell ⟨w.heap.size+1,0,none⟩ (.slice (some ⟨r1,0,none⟩) n k1)).setCell ⟨w.heap.size+1,1,none⟩ (.int .i64 size)).setCell ⟨w.heap.size+1,2,none⟩ (.bool full)))):=by
  have hls2:(a[seg].set i x).length=m:=by rw [List.length_set];exact HM.out
  have hla2:(a.set seg (a[seg].set i x)).length=n:=by rw [List.length_set];exact HN.out
  have o2:=zE hs2' hK5 (fun k hk e=>by cases hk;exact absurd e (show ¬ (r2=w.heap.size∨r2=w.heap.size+1) by omega))
  have o1:=zE hst1.1 hK5 (fun k hk e=>by cases hk;exact absurd e (show ¬ (r1=w.heap.size∨r1=w.heap.size+1) by omega))
  have hl2:=(o2.lt r2 rfl).2
  have hl1:=(o1.lt r1 rfl).2
  refine LH ((((HVF.out.grow HG5.out).and ((Foot.of_own o1).and (Foot.of_ownU o2))).imp (fun W' hW=>?_)).mono (fun k hk=>?_) (fun k hk=>?_))
  ·have hsr:SliceR 1 (.slice (some ⟨r2,0,none⟩) (a[seg].set i x).length k2) (a[seg].set i x).length (u64s (a[seg].set i x)) W':=by
     rw [hls2]
     exact hW.2.2.1
   have hd:=hW.1.set seg hs (a[seg].set i x) _ k2 hsr (by rw [hls2];exact hW.2.2.2)
   have ho1:SliceR 1 (.slice (some ⟨r1,0,none⟩) (a.set seg (a[seg].set i x)).length k1) (a.set seg (a[seg].set i x)).length (vs.set seg (.slice (some ⟨r2,0,none⟩) (a[seg].set i x).length k2)) W':=by
    rw [hls2,hla2]
    exact hW.2.1
   have:=RowsU.of_slice ho1 hd
   rw [hla2] at this
   exact this
  ·rcases hk with h | h
   ·exact Nat.lt_of_lt_of_le (HVF.out.lt h) HG5.out.size
   ·exact h.2
  ·rcases hk with h | h | h
   ·exact .inl h
   ·cases h;exact .inr ⟨show w.heap.size≤r1 by omega,hl1⟩
   ·cases h;exact .inr ⟨show w.heap.size≤r2 by omega,hl2⟩
 have e1:r1≠w.heap.size:=by omega
 have e2:r2≠w.heap.size:=by omega
 have e3:w.heap.size≠r1:=by omega
 have e4:w.heap.size≠r2:=by omega
 have e5:w.heap.size+1≠r1:=by omega
 have e6:w.heap.size+1≠r2:=by omega
 clear hap ho hgx hcells2 hr2 hst2 hO3 hst1 hs2' hK5 HB0' HB1' HO hl64
 go_wp2
 refine bodyPost_ret (v:=.agg #[.slice (some ⟨r1,0,none⟩) n k1,.int .i64 size,.bool full]) ?_ rfl ⟨_,_,rfl,HG5.out,HRR.out⟩
 rw [zT rfl];go_simp
theorem zfI (a:List (List Int)) (k:Nat) (h:k<a.length):(a.take (k+1)).flatten.length=(a.take k).flatten.length+a[k].length:=by
 rw [List.take_succ_eq_append_getElem h,List.flatten_append,List.length_append];simp only [List.flatten_cons,List.flatten_nil,List.append_nil]
theorem zpK (a:List (List Int)) (B:Nat) (h:∀ s∈a,s.length≤B):a.flatten.length≤a.length*B:=by
 induction a with
 | nil=>simp
 | cons x r ih =>
  have h1:=h x (List.mem_cons_self ..)
  have h2:=ih (fun s hs=>h s (List.mem_cons_of_mem _ hs))
  simp only [List.flatten_cons,List.length_append,List.length_cons,Nat.succ_mul]
  omega
theorem zXC (a:List (List Int)) (A:Option Addr) (c:Nat) (hl:a.length≤1000) (hb:∀ s∈a,s.length≤1000000) (w:World) (hR:RowsR .u64 a (.slice A a.length c) w) :
    Calls Tryz.prog 241 #[.slice A a.length c] w fun e w'=>e=.returned (.int .i64 (a.flatten.length:Nat))∧w=w':=by
 have HR:=LH hR
 have HB:=LH hb
 clear hR hb
 go_enter Tryz.func241,Tryz.ntmps241
 go_wp2
 go_loop [3,4] (fun s i=>∃ k:Nat,k≤a.length∧i=.int .i64 k∧s=.int .i64 ((a.take k).flatten.length:Nat)) (fun _ i=>a.length-(intOf i).toNat)
 case atStart=>exact ⟨0,by omega,rfl,by simp⟩
 case round =>
  obtain ⟨k,hk,rfl,rfl⟩:=hrel
  have hbb:=zpK (a.take k) 1000000 (fun s hs=>HB.out s (List.mem_of_mem_take hs))
  have hbl:(a.take k).length≤1000:=by simp;omega
  have hbm:(a.take k).length*1000000≤1000*1000000:=Nat.mul_le_mul_right _ hbl
  obtain ⟨S,hS⟩:∃ S,(a.take k).flatten.length=S:=⟨_,rfl⟩
  rw [hS] at hbb ⊢
  by_cases hlt:k<a.length
  ·have hlt':(k:Int)<a.length:=by omega
   obtain ⟨ad,A',c',rfl,hcell,_⟩:=RowsR.at_ HR.out k hlt
   have hkb:=HB.out _ (List.getElem_mem hlt)
   have HN:Hid ((a.take (k+1)).flatten.length=S+a[k].length):=LH (by rw [zfI a k hlt,hS])
   obtain ⟨L,hL⟩:∃ L,a[k].length=L:=⟨_,rfl⟩
   rw [hL] at hcell hkb HN
   have hw:IntKind.i64.wrap ((k:Int)+1)=(k:Int)+1:=IntWalk.i64_in _ (by omega)
   have hw2:IntKind.i64.wrap ((S:Int)+L)=(S:Int)+L:=IntWalk.i64_in _ (by omega)
   clear hbb hbl hbm hS hL
   go_wp2
   go_round
   case rel=>exact ⟨k+1,by omega,by go_num,by rw [HN.out];go_num⟩
   case measure=>simp [intOf];omega
  ·obtain rfl:k=a.length:=by omega
   have hlt':¬ ((a.length:Int)<a.length):=by omega
   have HS:=LH hS
   clear hbb hbl hbm hS
   go_wp2
   go_ret
   exact ⟨ret_i (by rw [← HS.out,List.take_length];simp),rfl⟩
end Go.Proofs.YtfkcpaahdlkcdaaGreat

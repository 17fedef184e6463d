import Derived.Test.YtfkcpaahdlkcdaaGreatRRecvReads02
set_option linter.unusedSimpArgs false
set_option linter.unusedVariables false
set_option maxRecDepth 100000
set_option maxHeartbeats 16000000
namespace Go.Proofs.YtfkcpaahdlkcdaaGreat
open Go.RowKit
theorem zaB (w:World):Calls Tryz.prog 277 #[] w fun e w'=>e=.returned (.agg #[qJ,qQ])∧Grow w w':=by
 go_enter Tryz.func277,Tryz.ntmps277
 go_wp2
 (try simp only [Exit.inBlock,Exit.then])
 refine bodyPost_ret (v:=.agg #[qJ,qQ]) ?_ rfl ⟨rfl,(Keep.refl _ _).alloc _⟩
 simp [results,Tryz.results277,go_sem]
theorem ziB (w:World):Calls Tryz.prog 287 #[] w fun e w'=>e=.returned (.agg #[qQ,.int .i64 30])∧Grow w w':=by
 go_enter Tryz.func287,Tryz.ntmps287
 go_wp2
 (try simp only [Exit.inBlock,Exit.then])
 refine bodyPost_ret (v:=.agg #[qQ,.int .i64 30]) ?_ rfl ⟨rfl,(Keep.refl _ _).alloc _⟩
 simp [results,Tryz.results287,go_sem]
theorem zmG (w:World):Calls Tryz.prog 279 #[] w fun e w'=>e=.returned (.agg #[.int .i64 32,.int .i64 16])∧Grow w w':=by
 go_enter Tryz.func279,Tryz.ntmps279
 go_wp2
 (try simp only [Exit.inBlock,Exit.then])
 refine bodyPost_ret (v:=.agg #[.int .i64 32,.int .i64 16]) ?_ rfl ⟨rfl,(Keep.refl _ _).alloc _⟩
 simp [results,Tryz.results279,go_sem]
theorem znG (w:World):Calls Tryz.prog 280 #[] w fun e w'=>e=.returned (.agg #[.int .i64 48,.int .i64 16])∧Grow w w':=by
 go_enter Tryz.func280,Tryz.ntmps280
 go_wp2
 (try simp only [Exit.inBlock,Exit.then])
 refine bodyPost_ret (v:=.agg #[.int .i64 48,.int .i64 16]) ?_ rfl ⟨rfl,(Keep.refl _ _).alloc _⟩
 simp [results,Tryz.results280,go_sem]
theorem zoG (w:World):Calls Tryz.prog 281 #[] w fun e w'=>e=.returned (.agg #[.int .i64 32,.int .i64 3])∧Grow w w':=by
 go_enter Tryz.func281,Tryz.ntmps281
 go_wp2
 (try simp only [Exit.inBlock,Exit.then])
 refine bodyPost_ret (v:=.agg #[.int .i64 32,.int .i64 3]) ?_ rfl ⟨rfl,(Keep.refl _ _).alloc _⟩
 simp [results,Tryz.results281,go_sem]
theorem zbF (w:World):Calls Tryz.prog 282 #[] w fun e w'=>e=.returned (.agg #[.int .i64 35,.int .i64 29])∧Grow w w':=by
 go_enter Tryz.func282,Tryz.ntmps282
 go_wp2
 (try simp only [Exit.inBlock,Exit.then])
 refine bodyPost_ret (v:=.agg #[.int .i64 35,.int .i64 29]) ?_ rfl ⟨rfl,(Keep.refl _ _).alloc _⟩
 simp [results,Tryz.results282,go_sem]
theorem zHF (w:World):Calls Tryz.prog 285 #[] w fun e w'=>e=.returned (.agg #[qQ,.int .i64 1])∧Grow w w':=by
 go_enter Tryz.func285,Tryz.ntmps285
 go_wp2
 (try simp only [Exit.inBlock,Exit.then])
 refine bodyPost_ret (v:=.agg #[qQ,.int .i64 1]) ?_ rfl ⟨rfl,(Keep.refl _ _).alloc _⟩
 simp [results,Tryz.results285,go_sem]
theorem zcF (w:World):Calls Tryz.prog 283 #[] w fun e w'=>e=.returned (.agg #[.int .i64 3,.int .i64 29])∧Grow w w':=by
 go_enter Tryz.func283,Tryz.ntmps283
 go_wp2
 (try simp only [Exit.inBlock,Exit.then])
 refine bodyPost_ret (v:=.agg #[.int .i64 3,.int .i64 29]) ?_ rfl ⟨rfl,(Keep.refl _ _).alloc _⟩
 simp [results,Tryz.results283,go_sem]
theorem zzH (w:World):Calls Tryz.prog 284 #[] w fun e w'=>e=.returned (.agg #[.int .i64 32,.int .i64 32])∧Grow w w':=by
 go_enter Tryz.func284,Tryz.ntmps284
 go_wp2
 (try simp only [Exit.inBlock,Exit.then])
 refine bodyPost_ret (v:=.agg #[.int .i64 32,.int .i64 32]) ?_ rfl ⟨rfl,(Keep.refl _ _).alloc _⟩
 simp [results,Tryz.results284,go_sem]
theorem zBM (b:Nat) (hb:b≤63):(1:Int)≤2 ^ b∧(2:Int) ^ b≤9223372036854775808:=by
 have h1:1≤2 ^ b:=Nat.two_pow_pos b
 have h2:2 ^ b≤9223372036854775808:=Nat.pow_le_pow_right (n:=2) (by decide) hb
 have e:(2:Int) ^ b=((2 ^ b:Nat):Int):=by simp
 rw [e]
 omega
theorem zcH (x:Int) (a b:Nat) (hx:0≤x) (hx2:x≤18446744073709551615) (hb:b≤63):bits .and .u64 (x/2 ^ a) (2 ^ b-1)=x/2 ^ a%2 ^ b:=by
 obtain ⟨n,rfl⟩:∃ n:Nat,x=n:=⟨x.toNat,by omega⟩
 have h1:(n:Int)/2 ^ a=((n/2 ^ a:Nat):Int):=by simp
 have hp:1≤2 ^ b:=Nat.two_pow_pos b
 have hp2:2 ^ b≤2 ^ 63:=Nat.pow_le_pow_right (by decide) hb
 have h2:(2:Int) ^ b-1=((2 ^ b-1:Nat):Int):=by
  rw [Int.natCast_sub hp]
  simp
 rw [h1,h2,bits_and_u64_nat _ _ (Nat.lt_of_le_of_lt (Nat.div_le_self _ _) (by omega)) (by omega),Nat.and_two_pow_sub_one_eq_mod]
 simp
theorem zYA (a b x:Int) (w:World) (h0:0≤a) (h1:a≤63) (h2:1≤b) (h3:b≤63) (hx:0≤x) (hx2:x≤18446744073709551615):Calls Tryz.prog 278 #[.agg #[.int .i64 a,.int .i64 b],.int .u64 x] w fun e w'=>e=.returned (.int .u64 (x/2 ^ a.toNat%2 ^ b.toNat))∧Grow w w':=by
 have hg:=(Keep.refl NoB w).alloc (.cells #[.int .i64 a,.int .i64 b] 374)
 have hd:=heap_alloc_new w (.cells #[.int .i64 a,.int .i64 b] 374)
 have c0:(w.alloc (.cells #[.int .i64 a,.int .i64 b] 374)).drew.cell? ⟨w.heap.size,0,none⟩=some (.int .i64 a):=World.news_of_block hd 0 _ rfl
 have c1:(w.alloc (.cells #[.int .i64 a,.int .i64 b] 374)).drew.cell? ⟨w.heap.size,1,none⟩=some (.int .i64 b):=World.news_of_block hd 1 _ rfl
 have Hg:=LH hg
 clear hg hd
 obtain ⟨hp0,hp1⟩:=zBM b.toNat (by omega)
 have hp2:IntKind.u64.wrap (2 ^ b.toNat)=2 ^ b.toNat:=IntWalk.u64_in _ (by omega)
 have hp3:IntKind.u64.wrap (2 ^ b.toNat-1)=2 ^ b.toNat-1:=IntWalk.u64_in _ (by omega)
 have hand:=zcH x a.toNat b.toNat hx hx2 (by omega)
 have Hh:=LH hand
 clear hand hp0 hp1
 go_enter Tryz.func278,Tryz.ntmps278
 go_wp2
 refine zE [0,1,2,3,4,5,6,7,8,9] [9] [2,5] [] rfl (by kernel_rfl) ?_
 iterate 2
  refine ord_p ?_
 refine oc1 c0 ?_
 refine ord_p ?_
 refine ord_p ?_
 refine oc1 c1 ?_
 refine ord_p ?_
 refine ord_p ?_
 refine ord_p ?_
 refine ord_s ?_
 refine zD ?_
 go_wp2
 go_ret
 rw [← Hh.out]
 exact ⟨rfl,Hg.out.drew⟩
theorem zNC (x:Int) (w:World) (hx:0≤x) (hx2:x≤18446744073709551615):Calls Tryz.prog 278 #[.agg #[qJ,qQ],.int .u64 x] w fun e w'=>e=.returned (.int .u64 (x/1%4))∧Grow w w' :=
 zYA 0 2 x w (by omega) (by omega) (by omega) (by omega) hx hx2
theorem zdH (x:Int) (w:World) (hx:0≤x) (hx2:x≤18446744073709551615):Calls Tryz.prog 278 #[.agg #[qQ,.int .i64 30],.int .u64 x] w fun e w'=>e=.returned (.int .u64 (x/4%1073741824))∧Grow w w' :=
 zYA 2 30 x w (by omega) (by omega) (by omega) (by omega) hx hx2
theorem zMK (x:Int) (w:World) (hx:0≤x) (hx2:x≤18446744073709551615):Calls Tryz.prog 278 #[.agg #[.int .i64 32,.int .i64 16],.int .u64 x] w fun e w'=>e=.returned (.int .u64 (x/4294967296%65536))∧Grow w w' :=
 zYA 32 16 x w (by omega) (by omega) (by omega) (by omega) hx hx2
theorem zNK (x:Int) (w:World) (hx:0≤x) (hx2:x≤18446744073709551615):Calls Tryz.prog 278 #[.agg #[.int .i64 48,.int .i64 16],.int .u64 x] w fun e w'=>e=.returned (.int .u64 (x/281474976710656%65536))∧Grow w w' :=
 zYA 48 16 x w (by omega) (by omega) (by omega) (by omega) hx hx2
theorem zOK (x:Int) (w:World) (hx:0≤x) (hx2:x≤18446744073709551615):Calls Tryz.prog 278 #[.agg #[.int .i64 32,.int .i64 3],.int .u64 x] w fun e w'=>e=.returned (.int .u64 (x/4294967296%8))∧Grow w w' :=
 zYA 32 3 x w (by omega) (by omega) (by omega) (by omega) hx hx2
theorem zxI (x:Int) (w:World) (hx:0≤x) (hx2:x≤18446744073709551615):Calls Tryz.prog 278 #[.agg #[.int .i64 35,.int .i64 29],.int .u64 x] w fun e w'=>e=.returned (.int .u64 (x/34359738368%536870912))∧Grow w w' :=
 zYA 35 29 x w (by omega) (by omega) (by omega) (by omega) hx hx2
theorem zAI (x:Int) (w:World) (hx:0≤x) (hx2:x≤18446744073709551615):Calls Tryz.prog 278 #[.agg #[qQ,.int .i64 1],.int .u64 x] w fun e w'=>e=.returned (.int .u64 (x/4%2))∧Grow w w' :=
 zYA 2 1 x w (by omega) (by omega) (by omega) (by omega) hx hx2
theorem zyI (x:Int) (w:World) (hx:0≤x) (hx2:x≤18446744073709551615):Calls Tryz.prog 278 #[.agg #[.int .i64 3,.int .i64 29],.int .u64 x] w fun e w'=>e=.returned (.int .u64 (x/8%536870912))∧Grow w w' :=
 zYA 3 29 x w (by omega) (by omega) (by omega) (by omega) hx hx2
theorem zYL (x:Int) (w:World) (hx:0≤x) (hx2:x≤18446744073709551615):Calls Tryz.prog 278 #[.agg #[.int .i64 32,.int .i64 32],.int .u64 x] w fun e w'=>e=.returned (.int .u64 (x/4294967296%4294967296))∧Grow w w' :=
 zYA 32 32 x w (by omega) (by omega) (by omega) (by omega) hx hx2
theorem zA {w:World} {g T:Nat} {a0 a1 a2 a3 a4:Value} (h:w.heap[g]? = some (.cells #[a0,a1,a2,a3,a4] T (0,0))):w.cell? ⟨g,0,none⟩=some a0∧w.cell? ⟨g,1,none⟩=some a1∧w.cell? ⟨g,2,none⟩=some a2∧w.cell? ⟨g,3,none⟩=some a3∧w.cell? ⟨g,4,none⟩=some a4∧∀ o,w.frozen? ⟨g,o,none⟩=false :=
 ⟨World.news_of_block h 0 _ rfl,World.news_of_block h 1 _ rfl,World.news_of_block h 2 _ rfl,World.news_of_block h 3 _ rfl,World.news_of_block h 4 _ rfl,fun o=>zN o h⟩
theorem zY {w0 w:World} {g T:Nat} {a0 a1 a2 a3 a4:Value} (n0 n1 n2 n3 n4:Value) (hg:Grow w0 w) (hge:w0.heap.size≤g) (h:w.heap[g]? = some (.cells #[a0,a1,a2,a3,a4] T (0,0))) :
    (((((w.setCell ⟨g,0,none⟩ n0).setCell ⟨g,1,none⟩ n1).setCell ⟨g,2,none⟩ n2).setCell ⟨g,3,none⟩ n3).setCell ⟨g,4,none⟩ n4).heap[g]? = some (.cells #[n0,n1,n2,n3,n4] T (0,0))∧Grow w0 (((((w.setCell ⟨g,0,none⟩ n0).setCell ⟨g,1,none⟩ n1).setCell ⟨g,2,none⟩ n2).setCell ⟨g,3,none⟩ n3).setCell ⟨g,4,none⟩ n4):=by
 refine ⟨?_,(((((hg.setCell (p:=⟨g,0,none⟩) (.inr hge) _).setCell (p:=⟨g,1,none⟩) (.inr hge) _).setCell (p:=⟨g,2,none⟩) (.inr hge) _).setCell (p:=⟨g,3,none⟩) (.inr hge) _).setCell (p:=⟨g,4,none⟩) (.inr hge) _)⟩
 simp only [World.setCell,Array.getElem?_modify]
 simp [h]
theorem zC {w:World} {g T:Nat} {a0 a1 a2 a3 a4 a5 a6:Value} (h:w.heap[g]? = some (.cells #[a0,a1,a2,a3,a4,a5,a6] T (0,0))):w.cell? ⟨g,0,none⟩=some a0∧w.cell? ⟨g,1,none⟩=some a1∧w.cell? ⟨g,2,none⟩=some a2∧w.cell? ⟨g,3,none⟩=some a3∧w.cell? ⟨g,4,none⟩=some a4∧w.cell? ⟨g,5,none⟩=some a5∧w.cell? ⟨g,6,none⟩=some a6∧∀ o,w.frozen? ⟨g,o,none⟩=false :=
 ⟨World.news_of_block h 0 _ rfl,World.news_of_block h 1 _ rfl,World.news_of_block h 2 _ rfl,World.news_of_block h 3 _ rfl,World.news_of_block h 4 _ rfl,World.news_of_block h 5 _ rfl,World.news_of_block h 6 _ rfl,fun o=>zN o h⟩
theorem zc {w0 w:World} {g T:Nat} {a0 a1 a2 a3 a4 a5 a6:Value} (n0 n1 n2 n3 n4 n5 n6:Value) (hg:Grow w0 w) (hge:w0.heap.size≤g) (h:w.heap[g]? = some (.cells #[a0,a1,a2,a3,a4,a5,a6] T (0,0))) :
    (((((((w.setCell ⟨g,0,none⟩ n0).setCell ⟨g,1,none⟩ n1).setCell ⟨g,2,none⟩ n2).setCell ⟨g,3,none⟩ n3).setCell ⟨g,4,none⟩ n4).setCell ⟨g,5,none⟩ n5).setCell ⟨g,6,none⟩ n6).heap[g]? = some (.cells #[n0,n1,n2,n3,n4,n5,n6] T (0,0))∧Grow w0 (((((((w.setCell ⟨g,0,none⟩ n0).setCell ⟨g,1,none⟩ n1).setCell ⟨g,2,none⟩ n2).setCell ⟨g,3,none⟩ n3).setCell ⟨g,4,none⟩ n4).setCell ⟨g,5,none⟩ n5).setCell ⟨g,6,none⟩ n6):=by
 refine ⟨?_,(((((((hg.setCell (p:=⟨g,0,none⟩) (.inr hge) _).setCell (p:=⟨g,1,none⟩) (.inr hge) _).setCell (p:=⟨g,2,none⟩) (.inr hge) _).setCell (p:=⟨g,3,none⟩) (.inr hge) _).setCell (p:=⟨g,4,none⟩) (.inr hge) _).setCell (p:=⟨g,5,none⟩) (.inr hge) _).setCell (p:=⟨g,6,none⟩) (.inr hge) _)⟩
 simp only [World.setCell,Array.getElem?_modify]
 simp [h]
theorem zP {w:World} {g T:Nat} {a0 a1 a2 a3 a4 a5 a6 a7:Value} (h:w.heap[g]? = some (.cells #[a0,a1,a2,a3,a4,a5,a6,a7] T (0,0))):w.cell? ⟨g,0,none⟩=some a0∧w.cell? ⟨g,1,none⟩=some a1∧w.cell? ⟨g,2,none⟩=some a2∧w.cell? ⟨g,3,none⟩=some a3∧w.cell? ⟨g,4,none⟩=some a4∧w.cell? ⟨g,5,none⟩=some a5∧w.cell? ⟨g,6,none⟩=some a6∧w.cell? ⟨g,7,none⟩=some a7∧∀ o,w.frozen? ⟨g,o,none⟩=false :=
 ⟨World.news_of_block h 0 _ rfl,World.news_of_block h 1 _ rfl,World.news_of_block h 2 _ rfl,World.news_of_block h 3 _ rfl,World.news_of_block h 4 _ rfl,World.news_of_block h 5 _ rfl,World.news_of_block h 6 _ rfl,World.news_of_block h 7 _ rfl,fun o=>zN o h⟩
theorem zKB {w0 w:World} {g T:Nat} {a0 a1 a2 a3 a4 a5 a6 a7:Value} (n0 n1 n2 n3 n4 n5 n6 n7:Value) (hg:Grow w0 w) (hge:w0.heap.size≤g) (h:w.heap[g]? = some (.cells #[a0,a1,a2,a3,a4,a5,a6,a7] T (0,0))) :
    ((((((((w.setCell ⟨g,0,none⟩ n0).setCell ⟨g,1,none⟩ n1).setCell ⟨g,2,none⟩ n2).setCell ⟨g,3,none⟩ n3).setCell ⟨g,4,none⟩ n4).setCell ⟨g,5,none⟩ n5).setCell ⟨g,6,none⟩ n6).setCell ⟨g,7,none⟩ n7).heap[g]? = some (.cells #[n0,n1,n2,n3,n4,n5,n6,n7] T (0,0))∧Grow w0 ((((((((w.setCell ⟨g,0,none⟩ n0).setCell ⟨g,1,none⟩ n1).setCell ⟨g,2,none⟩ n2).setCell ⟨g,3,none⟩ n3).setCell ⟨g,4,none⟩ n4).setCell ⟨g,5,none⟩ n5).setCell ⟨g,6,none⟩ n6).setCell ⟨g,7,none⟩ n7):=by
 refine ⟨?_,((((((((hg.setCell (p:=⟨g,0,none⟩) (.inr hge) _).setCell (p:=⟨g,1,none⟩) (.inr hge) _).setCell (p:=⟨g,2,none⟩) (.inr hge) _).setCell (p:=⟨g,3,none⟩) (.inr hge) _).setCell (p:=⟨g,4,none⟩) (.inr hge) _).setCell (p:=⟨g,5,none⟩) (.inr hge) _).setCell (p:=⟨g,6,none⟩) (.inr hge) _).setCell (p:=⟨g,7,none⟩) (.inr hge) _)⟩
 simp only [World.setCell,Array.getElem?_modify]
 simp [h]
theorem Grow.heap {w w':World} {g:Nat} {o:Obj} (hg:Grow w w') (h:w.heap[g]? = some o):w'.heap[g]? = some o :=
 (hg.block g (gE h).1 (fun h=>h)).trans h
def sg30 (n:Int):Int:=if n<536870912 then n else n-1073741824
theorem zZL {n:Int} (h0:0≤n) (h1:n<1073741824):sg30 n=wrap64 (n*17179869184)/17179869184:=by
 unfold sg30 wrap64
 split <;> omega
theorem zmC (n:Int) (w:World) (h0:0≤n) (h1:n<1073741824):Calls Tryz.prog 286 #[.int .u64 n,.int .i64 30] w fun e w'=>e=.returned (.int .i64 (sg30 n))∧w=w':=by
 go_enter Tryz.func286,Tryz.ntmps286
 go_wp2
 go_ret
 rw [zZL h0 h1]
 exact ⟨rfl,rfl⟩
structure Pt where
 kind:Int
 off:Int
 data:Int
 ptrs:Int
 size:Int
 count:Int
 seg:Int
 dbl:Bool
instance : Coe Pt (Array Value) := ⟨fun o => #[.int .i64 o.kind,.int .i64 o.off,.int .i64 o.data,.int .i64 o.ptrs,.int .i64 o.size,.int .i64 o.count,.int .i64 o.seg,.bool o.dbl]⟩
def Pt.cs (p:Pt):Array Value:=p
def pt0:Pt:=⟨0,0,0,0,0,0,0,false⟩
def ptrDec (x:Int):Pt×Int :=
 if x=0 then (pt0,0)
 else if x%4=0 then (⟨1,sg30 (x/4%1073741824),x/4294967296%65536,x/281474976710656%65536,0,0,0,false⟩,0)
 else if x%4=1 then (⟨2,sg30 (x/4%1073741824),0,0,x/4294967296%8,x/34359738368%536870912,0,false⟩,0)
 else if x%4=2 then (⟨3,x/8%536870912,0,0,0,0,x/4294967296%4294967296,(x/4%2==1)⟩,0)
 else (pt0,23)
def DecPost (x:Int) (w:World) (e:Ending) (w':World):Prop:=e=.returned (.tuple #[.agg (ptrDec x).1,.int .u16 (ptrDec x).2])∧Grow w w'
theorem zt {w:World} {g:Nat} {p:Addr} (u:Value) (h:g≠p.block):(w.setCell p u).heap[g]? = w.heap[g]? := RowKit.Below.heap_setCell _ _ _ _ h
theorem zU (w:World) (o1 o2:Obj):((w.alloc o1).alloc o2).heap[w.heap.size]? = some o1∧((w.alloc o1).alloc o2).heap[w.heap.size+1]? = some o2∧Grow w ((w.alloc o1).alloc o2):=by
 have h1:=heap_alloc_new w o1
 have h2:=((Keep.refl NoB (w.alloc o1)).alloc o2).block w.heap.size (by simp) (fun h=>h)
 have h3:=heap_alloc_new (w.alloc o1) o2
 exact ⟨h2.trans h1,by simpa using h3,((Keep.refl _ _).alloc _).alloc _⟩
theorem zPK (w:World):Calls Tryz.prog 272 #[qN] w (DecPost 0 w):=by
 go_enter Tryz.func272,Tryz.ntmps272
 go_wp2
 (try simp only [Exit.inBlock,Exit.then])
 refine bodyPost_ret (v:=.tuple #[.agg pt0.cs,.int .u16 0]) ?_ rfl ⟨rfl,(Keep.refl _ _).alloc _⟩
 rw [results_cell_tmp rfl];go_simp
 rfl
theorem zpG (x:Int) (w:World) (hx:0≤x) (hx2:x≤18446744073709551615) (h0:¬ x=0) (hm:x%4=0):Calls Tryz.prog 272 #[.int .u64 x] w (DecPost x w):=by
 have h0b:(x==0)=false:=beq_eq_false_iff_ne.2 h0
 have m0:(x%4==0)=true:=beq_iff_eq.2 hm
 have m1:(x%4==1)=false:=beq_eq_false_iff_ne.2 (by omega)
 have m2:(x%4==2)=false:=beq_eq_false_iff_ne.2 (by omega)
 obtain ⟨hB0,hB1,hG⟩:=zU w (.cells qB 120) (.cells qB 120)
 have HB0:=LH hB0
 have HB1:=LH hB1
 have HG:=LH hG
 have Hm:=LH (And.intro h0 hm)
 clear hB0 hB1 hG hm h0
 have hfd:∀ w:World,(Instr.field 374 (.agg #[qQ,.int .i64 30]) 1).run Tryz.prog w=.ok (.int .i64 30) w:=fun _=>by kernel_rfl
 go_enter Tryz.func272,Tryz.ntmps272
 go_wp2_with fail
 refine (zaB _).mono ?_
 rintro e w1 ⟨rfl,hg⟩
 replace HB0:=LH (hg.heap HB0.out)
 replace HB1:=LH (hg.heap HB1.out)
 replace HG:=LH (HG.out.grow hg)
 clear hg
 go_wp2_with fail
 refine (zNC x _ hx hx2).mono ?_
 rintro e w2 ⟨rfl,hg⟩
 replace HB0:=LH (hg.heap HB0.out)
 replace HB1:=LH (hg.heap HB1.out)
 replace HG:=LH (HG.out.grow hg)
 clear hg
 go_wp2_with fail
 refine (zmG _).mono ?_
 rintro e w3 ⟨rfl,hg⟩
 replace HB0:=LH (hg.heap HB0.out)
 replace HB1:=LH (hg.heap HB1.out)
 replace HG:=LH (HG.out.grow hg)
 clear hg
 go_wp2_with fail
 refine (zMK x _ hx hx2).mono ?_
 rintro e w4 ⟨rfl,hg⟩
 replace HB0:=LH (hg.heap HB0.out)
 replace HB1:=LH (hg.heap HB1.out)
 replace HG:=LH (HG.out.grow hg)
 clear hg
 go_wp2_with fail
 refine (znG _).mono ?_
 rintro e w5 ⟨rfl,hg⟩
 replace HB0:=LH (hg.heap HB0.out)
 replace HB1:=LH (hg.heap HB1.out)
 replace HG:=LH (HG.out.grow hg)
 clear hg
 go_wp2_with fail
 refine (zNK x _ hx hx2).mono ?_
 rintro e w6 ⟨rfl,hg⟩
 replace HB0:=LH (hg.heap HB0.out)
 replace HB1:=LH (hg.heap HB1.out)
 replace HG:=LH (HG.out.grow hg)
 clear hg
 obtain ⟨c0,c1,c2,c3,c4,c5,c6,c7,cf⟩:=zP HB1.out
 have hsz:=HG.out.size
 have hb2:=LH (zKB (.int .i64 1) (.int .i64 0) (.int .i64 (x/4294967296%65536)) (.int .i64 (x/281474976710656%65536)) (.int .i64 0) (.int .i64 0) (.int .i64 0) (.bool false) HG.out (by omega) HB1.out)
 have hB0':((((((((w6.setCell ⟨w.heap.size+1,0,none⟩ (.int .i64 1)).setCell ⟨w.heap.size+1,1,none⟩ (.int .i64 0)).setCell ⟨w.heap.size+1,2,none⟩ (.int .i64 (x/4294967296%65536))).setCell ⟨w.heap.size+1,3,none⟩ (.int .i64 (x/281474976710656%65536))).setCell ⟨w.heap.size+1,4,none⟩ (.int .i64 0)).setCell ⟨w.heap.size+1,5,none⟩ (.int .i64 0)).setCell ⟨w.heap.size+1,6,none⟩ (.int .i64 0)).setCell ⟨w.heap.size+1,7,none⟩ (.bool false)).heap[w.heap.size]? = some (.cells qB 120):=by
  refine Eq.trans ?_ HB0.out
  iterate 7 refine (zt _ (by simp)).trans ?_
  exact zt _ (by simp)
 replace HB0:=LH hB0'
 replace HB1:=LH hb2.out.1
 replace HG:=LH hb2.out.2
 clear hB0' hb2
 go_wp2_with fail
 refine (ziB _).mono ?_
 rintro e w7 ⟨rfl,hg⟩
 replace HB0:=LH (hg.heap HB0.out)
 replace HB1:=LH (hg.heap HB1.out)
 replace HG:=LH (HG.out.grow hg)
 clear hg c0 c1 c2 c3 c4 c5 c6 c7 cf
 go_wp2_with fail
 refine (zdH x _ hx hx2).mono ?_
 rintro e w8 ⟨rfl,hg⟩
 replace HB0:=LH (hg.heap HB0.out)
 replace HB1:=LH (hg.heap HB1.out)
 replace HG:=LH (HG.out.grow hg)
 clear hg
 go_wp2_with fail
 refine (ziB _).mono ?_
 rintro e w9 ⟨rfl,hg⟩
 replace HB0:=LH (hg.heap HB0.out)
 replace HB1:=LH (hg.heap HB1.out)
 replace HG:=LH (HG.out.grow hg)
 clear hg
 go_wp2_with fail
 refine (zmC (x/4%1073741824) _ (by omega) (by omega)).mono ?_
 rintro e w10 ⟨rfl,rfl⟩
 obtain ⟨c0,c1,c2,c3,c4,c5,c6,c7,cf⟩:=zP HB1.out
 obtain ⟨b0,b1,b2,b3,b4,b5,b6,b7,bf⟩:=zP HB0.out
 have hG2:=LH (HG.out.setCell (p:=⟨w.heap.size+1,1,none⟩) (.inr (by simp)) (.int .i64 (sg30 (x/4%1073741824))))
 have hB2:=LH ((zt (w:=w9) (p:=⟨w.heap.size+1,1,none⟩) (.int .i64 (sg30 (x/4%1073741824))) (by simp)).trans HB0.out)
 have hst:=LH (zKB (.int .i64 1) (.int .i64 (sg30 (x/4%1073741824))) (.int .i64 (x/4294967296%65536)) (.int .i64 (x/281474976710656%65536)) (.int .i64 0) (.int .i64 0) (.int .i64 0) (.bool false) hG2.out (Nat.le_refl _) hB2.out)
 go_wp2
 (try simp only [Exit.inBlock,Exit.then])
 obtain ⟨r0,r1,r2,r3,r4,r5,r6,r7,rf⟩:=zP hst.out.1
 refine bodyPost_ret (v:=.tuple #[.agg #[.int .i64 1,.int .i64 (sg30 (x/4%1073741824)),.int .i64 (x/4294967296%65536),.int .i64 (x/281474976710656%65536),qJ,qJ,qJ,qL],.int .u16 0]) ?_ rfl ⟨?_,hst.out.2⟩
 ·rw [results_cell_tmp rfl];go_simp
 ·simp only [ptrDec,if_neg Hm.out.1,Hm.out.2,Pt.cs,if_true]
  all_goals rfl
theorem zzI (x:Int) (w:World) (hx:0≤x) (hx2:x≤18446744073709551615) (h0:¬ x=0) (hm:x%4=1):Calls Tryz.prog 272 #[.int .u64 x] w (DecPost x w):=by
 have h0b:(x==0)=false:=beq_eq_false_iff_ne.2 h0
 have m0:(x%4==0)=false:=beq_eq_false_iff_ne.2 (by omega)
 have m1:(x%4==1)=true:=beq_iff_eq.2 hm
 have m2:(x%4==2)=false:=beq_eq_false_iff_ne.2 (by omega)
 obtain ⟨hB0,hB1,hG⟩:=zU w (.cells qB 120) (.cells qB 120)
 have HB0:=LH hB0
 have HB1:=LH hB1
 have HG:=LH hG
 have Hm:=LH (And.intro h0 hm)
 clear hB0 hB1 hG hm h0
 have hfd:∀ w:World,(Instr.field 374 (.agg #[qQ,.int .i64 30]) 1).run Tryz.prog w=.ok (.int .i64 30) w:=fun _=>by kernel_rfl
 go_enter Tryz.func272,Tryz.ntmps272
 go_wp2_with fail
 refine (zaB _).mono ?_
 rintro e w1 ⟨rfl,hg⟩
 replace HB0:=LH (hg.heap HB0.out)
 replace HB1:=LH (hg.heap HB1.out)
 replace HG:=LH (HG.out.grow hg)
 clear hg
 go_wp2_with fail
 refine (zNC x _ hx hx2).mono ?_
 rintro e w2 ⟨rfl,hg⟩
 replace HB0:=LH (hg.heap HB0.out)
 replace HB1:=LH (hg.heap HB1.out)
 replace HG:=LH (HG.out.grow hg)
 clear hg
 go_wp2_with fail
 refine (zoG _).mono ?_
 rintro e w3 ⟨rfl,hg⟩
 replace HB0:=LH (hg.heap HB0.out)
 replace HB1:=LH (hg.heap HB1.out)
 replace HG:=LH (HG.out.grow hg)
 clear hg
 go_wp2_with fail
 refine (zOK x _ hx hx2).mono ?_
 rintro e w4 ⟨rfl,hg⟩
 replace HB0:=LH (hg.heap HB0.out)
 replace HB1:=LH (hg.heap HB1.out)
 replace HG:=LH (HG.out.grow hg)
 clear hg
 go_wp2_with fail
 refine (zbF _).mono ?_
 rintro e w5 ⟨rfl,hg⟩
 replace HB0:=LH (hg.heap HB0.out)
 replace HB1:=LH (hg.heap HB1.out)
 replace HG:=LH (HG.out.grow hg)
 clear hg
 go_wp2_with fail
 refine (zxI x _ hx hx2).mono ?_
 rintro e w6 ⟨rfl,hg⟩
 replace HB0:=LH (hg.heap HB0.out)
 replace HB1:=LH (hg.heap HB1.out)
 replace HG:=LH (HG.out.grow hg)
 clear hg
 obtain ⟨c0,c1,c2,c3,c4,c5,c6,c7,cf⟩:=zP HB1.out
 have hsz:=HG.out.size
 have hb2:=LH (zKB (.int .i64 2) (.int .i64 0) (.int .i64 0) (.int .i64 0) (.int .i64 (x/4294967296%8)) (.int .i64 (x/34359738368%536870912)) (.int .i64 0) (.bool false) HG.out (by omega) HB1.out)
 have hB0':((((((((w6.setCell ⟨w.heap.size+1,0,none⟩ (.int .i64 2)).setCell ⟨w.heap.size+1,1,none⟩ (.int .i64 0)).setCell ⟨w.heap.size+1,2,none⟩ (.int .i64 0)).setCell ⟨w.heap.size+1,3,none⟩ (.int .i64 0)).setCell ⟨w.heap.size+1,4,none⟩ (.int .i64 (x/4294967296%8))).setCell ⟨w.heap.size+1,5,none⟩ (.int .i64 (x/34359738368%536870912))).setCell ⟨w.heap.size+1,6,none⟩ (.int .i64 0)).setCell ⟨w.heap.size+1,7,none⟩ (.bool false)).heap[w.heap.size]? = some (.cells qB 120):=by
  refine Eq.trans ?_ HB0.out
  iterate 7 refine (zt _ (by simp)).trans ?_
  exact zt _ (by simp)
 replace HB0:=LH hB0'
 replace HB1:=LH hb2.out.1
 replace HG:=LH hb2.out.2
 clear hB0' hb2
 go_wp2_with fail
 refine (ziB _).mono ?_
 rintro e w7 ⟨rfl,hg⟩
 replace HB0:=LH (hg.heap HB0.out)
 replace HB1:=LH (hg.heap HB1.out)
 replace HG:=LH (HG.out.grow hg)
 clear hg c0 c1 c2 c3 c4 c5 c6 c7 cf
 go_wp2_with fail
 refine (zdH x _ hx hx2).mono ?_
 rintro e w8 ⟨rfl,hg⟩
 replace HB0:=LH (hg.heap HB0.out)
 replace HB1:=LH (hg.heap HB1.out)
 replace HG:=LH (HG.out.grow hg)
 clear hg
 go_wp2_with fail
 refine (ziB _).mono ?_
 rintro e w9 ⟨rfl,hg⟩
 replace HB0:=LH (hg.heap HB0.out)
 replace HB1:=LH (hg.heap HB1.out)
 replace HG:=LH (HG.out.grow hg)
 clear hg
 go_wp2_with fail
 refine (zmC (x/4%1073741824) _ (by omega) (by omega)).mono ?_
 rintro e w10 ⟨rfl,rfl⟩
 obtain ⟨c0,c1,c2,c3,c4,c5,c6,c7,cf⟩:=zP HB1.out
 obtain ⟨b0,b1,b2,b3,b4,b5,b6,b7,bf⟩:=zP HB0.out
 have hG2:=LH (HG.out.setCell (p:=⟨w.heap.size+1,1,none⟩) (.inr (by simp)) (.int .i64 (sg30 (x/4%1073741824))))
 have hB2:=LH ((zt (w:=w9) (p:=⟨w.heap.size+1,1,none⟩) (.int .i64 (sg30 (x/4%1073741824))) (by simp)).trans HB0.out)
 have hst:=LH (zKB (.int .i64 2) (.int .i64 (sg30 (x/4%1073741824))) (.int .i64 0) (.int .i64 0) (.int .i64 (x/4294967296%8)) (.int .i64 (x/34359738368%536870912)) (.int .i64 0) (.bool false) hG2.out (Nat.le_refl _) hB2.out)
 go_wp2
 (try simp only [Exit.inBlock,Exit.then])
 obtain ⟨r0,r1,r2,r3,r4,r5,r6,r7,rf⟩:=zP hst.out.1
 refine bodyPost_ret (v:=.tuple #[.agg #[qQ,.int .i64 (sg30 (x/4%1073741824)),qJ,qJ,.int .i64 (x/4294967296%8),.int .i64 (x/34359738368%536870912),qJ,qL],.int .u16 0]) ?_ rfl ⟨?_,hst.out.2⟩
 ·rw [results_cell_tmp rfl];go_simp
 ·simp only [ptrDec,if_neg Hm.out.1,Hm.out.2,Pt.cs,if_true]
  all_goals rfl
theorem zQK (x:Int) (w:World) (hx:0≤x) (hx2:x≤18446744073709551615) (h0:¬ x=0) (hm:x%4=2):Calls Tryz.prog 272 #[.int .u64 x] w (DecPost x w):=by
 have h0b:(x==0)=false:=beq_eq_false_iff_ne.2 h0
 have m0:(x%4==0)=false:=beq_eq_false_iff_ne.2 (by omega)
 have m1:(x%4==1)=false:=beq_eq_false_iff_ne.2 (by omega)
 have m2:(x%4==2)=true:=beq_iff_eq.2 hm
 obtain ⟨hB0,hB1,hG⟩:=zU w (.cells qB 120) (.cells qB 120)
 have HB0:=LH hB0
 have HB1:=LH hB1
 have HG:=LH hG
 have Hm:=LH (And.intro h0 hm)
 clear hB0 hB1 hG hm h0
 have hfd:∀ w:World,(Instr.field 374 (.agg #[qQ,.int .i64 30]) 1).run Tryz.prog w=.ok (.int .i64 30) w:=fun _=>by kernel_rfl
 go_enter Tryz.func272,Tryz.ntmps272
 go_wp2_with fail
 refine (zaB _).mono ?_
 rintro e w1 ⟨rfl,hg⟩
 replace HB0:=LH (hg.heap HB0.out)
 replace HB1:=LH (hg.heap HB1.out)
 replace HG:=LH (HG.out.grow hg)
 clear hg
 go_wp2_with fail
 refine (zNC x _ hx hx2).mono ?_
 rintro e w2 ⟨rfl,hg⟩
 replace HB0:=LH (hg.heap HB0.out)
 replace HB1:=LH (hg.heap HB1.out)
 replace HG:=LH (HG.out.grow hg)
 clear hg
 go_wp2_with fail
 refine (zcF _).mono ?_
 rintro e w3 ⟨rfl,hg⟩
 replace HB0:=LH (hg.heap HB0.out)
 replace HB1:=LH (hg.heap HB1.out)
 replace HG:=LH (HG.out.grow hg)
 clear hg
 go_wp2_with fail
 refine (zyI x _ hx hx2).mono ?_
 rintro e w4 ⟨rfl,hg⟩
 replace HB0:=LH (hg.heap HB0.out)
 replace HB1:=LH (hg.heap HB1.out)
 replace HG:=LH (HG.out.grow hg)
 clear hg
 go_wp2_with fail
 refine (zzH _).mono ?_
 rintro e w5 ⟨rfl,hg⟩
 replace HB0:=LH (hg.heap HB0.out)
 replace HB1:=LH (hg.heap HB1.out)
 replace HG:=LH (HG.out.grow hg)
 clear hg
 go_wp2_with fail
 refine (zYL x _ hx hx2).mono ?_
 rintro e w6 ⟨rfl,hg⟩
 replace HB0:=LH (hg.heap HB0.out)
 replace HB1:=LH (hg.heap HB1.out)
 replace HG:=LH (HG.out.grow hg)
 clear hg
 go_wp2_with fail
 refine (zHF _).mono ?_
 rintro e w7 ⟨rfl,hg⟩
 replace HB0:=LH (hg.heap HB0.out)
 replace HB1:=LH (hg.heap HB1.out)
 replace HG:=LH (HG.out.grow hg)
 clear hg
 go_wp2_with fail
 refine (zAI x _ hx hx2).mono ?_
 rintro e w8 ⟨rfl,hg⟩
 replace HB0:=LH (hg.heap HB0.out)
 replace HB1:=LH (hg.heap HB1.out)
 replace HG:=LH (HG.out.grow hg)
 clear hg
 obtain ⟨b0,b1,b2,b3,b4,b5,b6,b7,bf⟩:=zP HB0.out
 have hst:=LH (zKB (.int .i64 3) (.int .i64 (x/8%536870912)) (.int .i64 0) (.int .i64 0) (.int .i64 0) (.int .i64 0) (.int .i64 (x/4294967296%4294967296)) (.bool (x/4%2==1)) HG.out (Nat.le_refl _) HB0.out)
 go_wp2
 (try simp only [Exit.inBlock,Exit.then])
 obtain ⟨r0,r1,r2,r3,r4,r5,r6,r7,rf⟩:=zP hst.out.1
 refine bodyPost_ret (v:=.tuple #[.agg #[.int .i64 3,.int .i64 (x/8%536870912),qJ,qJ,qJ,qJ,.int .i64 (x/4294967296%4294967296),.bool (x/4%2==1)],.int .u16 0]) ?_ rfl ⟨?_,hst.out.2⟩
 ·rw [results_cell_tmp rfl];go_simp
 ·simp only [ptrDec,if_neg Hm.out.1,Hm.out.2,Pt.cs,if_true]
  all_goals rfl
theorem zRK (x:Int) (w:World) (hx:0≤x) (hx2:x≤18446744073709551615) (h0:¬ x=0) (hm:x%4=3):Calls Tryz.prog 272 #[.int .u64 x] w (DecPost x w):=by
 have h0b:(x==0)=false:=beq_eq_false_iff_ne.2 h0
 have m0:(x%4==0)=false:=beq_eq_false_iff_ne.2 (by omega)
 have m1:(x%4==1)=false:=beq_eq_false_iff_ne.2 (by omega)
 have m2:(x%4==2)=false:=beq_eq_false_iff_ne.2 (by omega)
 obtain ⟨hB0,hB1,hG⟩:=zU w (.cells qB 120) (.cells qB 120)
 have HB0:=LH hB0
 have HB1:=LH hB1
 have HG:=LH hG
 have Hm:=LH (And.intro h0 hm)
 clear hB0 hB1 hG hm h0
 have hfd:∀ w:World,(Instr.field 374 (.agg #[qQ,.int .i64 30]) 1).run Tryz.prog w=.ok (.int .i64 30) w:=fun _=>by kernel_rfl
 go_enter Tryz.func272,Tryz.ntmps272
 go_wp2_with fail
 refine (zaB _).mono ?_
 rintro e w1 ⟨rfl,hg⟩
 replace HB0:=LH (hg.heap HB0.out)
 replace HB1:=LH (hg.heap HB1.out)
 replace HG:=LH (HG.out.grow hg)
 clear hg
 go_wp2_with fail
 refine (zNC x _ hx hx2).mono ?_
 rintro e w2 ⟨rfl,hg⟩
 replace HB0:=LH (hg.heap HB0.out)
 replace HB1:=LH (hg.heap HB1.out)
 replace HG:=LH (HG.out.grow hg)
 clear hg
 obtain ⟨b0,b1,b2,b3,b4,b5,b6,b7,bf⟩:=zP HB0.out
 obtain ⟨c0,c1,c2,c3,c4,c5,c6,c7,cf⟩:=zP HB1.out
 have hst:=LH (zKB (.int .i64 0) (.int .i64 0) (.int .i64 0) (.int .i64 0) (.int .i64 0) (.int .i64 0) (.int .i64 0) (.bool false) HG.out (Nat.le_refl _) HB0.out)
 go_wp2
 (try simp only [Exit.inBlock,Exit.then])
 obtain ⟨r0,r1,r2,r3,r4,r5,r6,r7,rf⟩:=zP hst.out.1
 refine bodyPost_ret (v:=.tuple #[.agg qB,.int .u16 23]) ?_ rfl ⟨?_,hst.out.2⟩
 ·rw [results_cell_tmp rfl];go_simp
 ·simp only [ptrDec,if_neg Hm.out.1,Hm.out.2,Pt.cs,if_true]
  all_goals rfl
theorem zOC (x:Int) (w:World) (hx:0≤x) (hx2:x≤18446744073709551615):Calls Tryz.prog 272 #[.int .u64 x] w (DecPost x w):=by
 by_cases h0:x=0
 ·subst h0;exact zPK w
 by_cases h1:x%4=0
 ·exact zpG x w hx hx2 h0 h1
 by_cases h2:x%4=1
 ·exact zzI x w hx hx2 h0 h2
 by_cases h3:x%4=2
 ·exact zQK x w hx hx2 h0 h3
 ·exact zRK x w hx hx2 h0 (by omega)
structure PtOk (p:Pt):Prop where
 k:p.kind=0∨p.kind=1∨p.kind=2∨p.kind=3
 o : -536870912≤p.off∧p.off≤536870912
 d:0≤p.data∧p.data≤65535
 q:0≤p.ptrs∧p.ptrs≤65535
 s:0≤p.size∧p.size≤7
 c:0≤p.count∧p.count≤536870911
 g:0≤p.seg∧p.seg≤4294967295
theorem zdF:PtOk pt0:=by constructor <;> simp [pt0]
theorem zaL {n:Int} (h:0≤n) (h2:n<1073741824) : -536870912≤sg30 n∧sg30 n≤536870912:=by
 unfold sg30
 split <;> omega
theorem zeB (x:Int) (hx:0≤x):PtOk (ptrDec x).1:=by
 unfold ptrDec
 have hs:=zaL (n:=x/4%1073741824) (by omega) (by omega)
 split
 ·exact zdF
 split
 ·constructor <;> simp <;> omega
 split
 ·constructor <;> simp <;> omega
 split
 ·constructor <;> simp <;> omega
 ·exact zdF
def ptrWords (p:Pt):Int×Int :=
 if p.kind=0 then (0,0)
 else if p.kind=1 then (p.data+p.ptrs,0)
 else if p.kind=3 then (if p.dbl then 2 else 1,0)
 else if p.kind=2 then
  if p.size=2 then ((p.count+7)/8,0)
  else if p.size=5∨p.size=6 then (p.count,0)
  else (0,23)
 else (0,23)
def WordsPost (p:Pt) (w:World) (e:Ending) (w':World):Prop:=e=.returned (.tuple #[.int .i64 (ptrWords p).1,.int .u16 (ptrWords p).2])∧Grow w w'
theorem znC (p:Pt) (w:World) (hp:PtOk p):Calls Tryz.prog 273 #[.agg p.cs] w (WordsPost p w):=by
 have hg:=(Keep.refl NoB w).alloc (.cells p.cs 120)
 have hd:=heap_alloc_new w (.cells p.cs 120)
 have hdat:=hp.d
 have hptr:=hp.q
 have hcnt:=hp.c
 obtain ⟨kind,off,data,ptrs,size,count,seg,dbl⟩:=p
 simp only [Pt.cs] at hg hd hdat hptr hcnt ⊢
 obtain ⟨c0,c1,c2,c3,c4,c5,c6,c7,cf⟩:=zP hd
 have Hg:=LH hg
 clear hg hd hp
 by_cases k0:kind=0
 ·subst k0
  go_enter Tryz.func273,Tryz.ntmps273
  go_wp2
  go_ret2
  exact ⟨rfl,Hg.out⟩
 have k0b:(kind==0)=false:=beq_eq_false_iff_ne.2 k0
 by_cases k1:kind=1
 ·subst k1
  clear k0
  go_enter Tryz.func273,Tryz.ntmps273
  go_wp2
  go_ret2
  exact ⟨rfl,Hg.out⟩
 have k1b:(kind==1)=false:=beq_eq_false_iff_ne.2 k1
 by_cases k3:kind=3
 ·subst k3
  clear k0 k1
  cases dbl
  all_goals
   go_enter Tryz.func273,Tryz.ntmps273
   go_wp2
   go_ret2
   exact ⟨rfl,Hg.out⟩
 have k3b:(kind==3)=false:=beq_eq_false_iff_ne.2 k3
 by_cases k2:kind=2
 ·subst k2
  clear k0 k1 k3
  by_cases s2:size=2
  ·subst s2
   go_enter Tryz.func273,Tryz.ntmps273
   go_wp2
   go_ret2
   refine ⟨?_,Hg.out⟩
   simp [ptrWords]
   omega
  have s2b:(size==2)=false:=beq_eq_false_iff_ne.2 s2
  by_cases s5:size=5
  ·subst s5
   clear s2
   go_enter Tryz.func273,Tryz.ntmps273
   go_wp2
   go_ret2
   exact ⟨rfl,Hg.out⟩
  have s5b:(size==5)=false:=beq_eq_false_iff_ne.2 s5
  by_cases s6:size=6
  ·subst s6
   clear s2 s5
   go_enter Tryz.func273,Tryz.ntmps273
   go_wp2
   go_ret2
   exact ⟨rfl,Hg.out⟩
  have s6b:(size==6)=false:=beq_eq_false_iff_ne.2 s6
  have E:Hid (ptrWords ⟨2,off,data,ptrs,size,count,seg,dbl⟩=(0,23)):=by
   refine LH ?_
   simp [ptrWords,s2,s5,s6]
  clear s2 s5 s6
  go_enter Tryz.func273,Tryz.ntmps273
  go_wp2
  go_ret2
  exact ⟨by rw [E.out];rfl,Hg.out⟩
 have k2b:(kind==2)=false:=beq_eq_false_iff_ne.2 k2
 have E:Hid (ptrWords ⟨kind,off,data,ptrs,size,count,seg,dbl⟩=(0,23)):=by
  refine LH ?_
  simp [ptrWords,k0,k1,k2,k3]
 clear k0 k1 k2 k3
 go_enter Tryz.func273,Tryz.ntmps273
 go_wp2
 go_ret2
 exact ⟨by rw [E.out];rfl,Hg.out⟩
structure Ob where
 kind:Int
 seg:Int
 at_:Int
 data:Int
 ptrs:Int
 size:Int
 count:Int
instance : Coe Ob (Array Value) := ⟨fun o => #[.int .i64 o.kind,.int .i64 o.seg,.int .i64 o.at_,.int .i64 o.data,.int .i64 o.ptrs,.int .i64 o.size,.int .i64 o.count]⟩
def Ob.cs (o:Ob):Array Value:=o
def ob0:Ob:=⟨0,0,0,0,0,0,0⟩
def obP (o:Ob):Pt:=⟨o.kind,0,o.data,o.ptrs,o.size,o.count,0,false⟩
theorem znE (o:Ob) (w:World):Calls Tryz.prog 274 #[.agg o.cs] w fun e w'=>e=.returned (.agg #[o.kind,qJ,.int .i64 o.data,.int .i64 o.ptrs,o.size,.int .i64 o.count,qJ,qL])∧Grow w w':=by
 simp only [Ob.cs,Pt.cs,obP]
 go_enter Tryz.func274,Tryz.ntmps274
 go_wp2
 (try simp only [Exit.inBlock,Exit.then])
 refine bodyPost_ret (v:=.agg #[o.kind,qJ,.int .i64 o.data,.int .i64 o.ptrs,o.size,.int .i64 o.count,qJ,qL]) ?_ rfl ⟨rfl,((Keep.refl _ _).alloc _).alloc _⟩
 simp [results,Tryz.results274,go_sem]
structure ObOk (o:Ob):Prop where
 k:o.kind=0∨o.kind=1∨o.kind=2∨o.kind=3
 d:0≤o.data∧o.data≤65535
 q:0≤o.ptrs∧o.ptrs≤65535
 s:0≤o.size∧o.size≤7
 c:0≤o.count∧o.count≤536870911
theorem zAJ:ObOk ob0:=by constructor <;> simp [ob0]
theorem zxD {o:Ob} (h:ObOk o):PtOk (obP o):=⟨h.k,by simp [obP],h.d,h.q,h.s,h.c,by simp [obP]⟩
def obWords (o:Ob):Int:=if o.kind=3 then 0 else (ptrWords (obP o)).1
theorem zSA (o:Ob) (w:World) (ho:ObOk o):Calls Tryz.prog 264 #[.agg o.cs] w fun e w'=>e=.returned (.int .i64 (obWords o))∧Grow w w':=by
 have hg:=(Keep.refl NoB w).alloc (.cells o.cs 257)
 have hd:=heap_alloc_new w (.cells o.cs 257)
 have Hg:=LH hg
 have HO:=LH ho
 obtain ⟨c0,c1,c2,c3,c4,c5,c6,cf⟩:=zC (show (w.alloc (.cells o.cs 257)).heap[w.heap.size]? = some (.cells o 257 (0,0)) from hd)
 simp only [Ob.cs] at c0 c1 c2 c3 c4 c5 c6 cf Hg ⊢
 clear hg hd ho
 by_cases k3:o.kind=3
 ·have E:Hid (obWords o=0):=LH (by simp [obWords,k3])
  have k3b:(o.kind==3)=true:=beq_iff_eq.2 k3
  clear k3
  go_enter Tryz.func264,Tryz.ntmps264
  go_wp2
  go_ret
  exact ⟨by rw [E.out];rfl,Hg.out⟩
 ·have E:Hid (obWords o=(ptrWords (obP o)).1):=LH (by simp [obWords,k3])
  have k3b:(o.kind==3)=false:=beq_eq_false_iff_ne.2 k3
  clear k3
  go_enter Tryz.func264,Tryz.ntmps264
  go_wp2_with fail
  refine (znE o _).mono ?_
  rintro e w1 ⟨rfl,hg1⟩
  have Hg1:=LH (Hg.out.grow hg1)
  clear hg1
  go_wp2_with fail
  refine (show Calls Tryz.prog 273 #[.agg #[o.kind,qJ,.int .i64 o.data,.int .i64 o.ptrs,o.size,.int .i64 o.count,qJ,qL]] w1 (WordsPost (obP o) w1) from znC (obP o) w1 (zxD HO.out)).mono ?_
  rintro e w2 ⟨rfl,hg2⟩
  have Hg2:=LH (Hg1.out.grow hg2)
  clear hg2
  go_wp2
  go_ret
  exact ⟨by rw [E.out];rfl,Hg2.out⟩
def isNear (p:Pt):Bool:=p.kind==1||p.kind==2
theorem zzB (p:Pt) (w:World):Calls Tryz.prog 260 #[.agg p.cs] w fun e w'=>e=.returned (.bool (isNear p))∧Grow w w':=by
 have hd:=heap_alloc_new w (.cells p.cs 120)
 have Hg:=LH ((Keep.refl NoB w).alloc (.cells p.cs 120))
 obtain ⟨c0,c1,c2,c3,c4,c5,c6,c7,cf⟩:=zP (show (w.alloc (.cells p.cs 120)).heap[w.heap.size]? = some (.cells p 120 (0,0)) from hd)
 simp only [Pt.cs] at c0 c1 c2 c3 c4 c5 c6 c7 cf Hg ⊢
 clear hd
 by_cases k1:p.kind=1
 ·have E:Hid (isNear p=true):=LH (by simp [isNear,k1])
  have k1b:(p.kind==1)=true:=beq_iff_eq.2 k1
  clear k1
  go_enter Tryz.func260,Tryz.ntmps260
  go_wp2
  go_ret
  exact ⟨by rw [E.out];rfl,Hg.out⟩
 ·have E:Hid (isNear p=(p.kind==2)):=LH (by simp [isNear,k1])
  have k1b:(p.kind==1)=false:=beq_eq_false_iff_ne.2 k1
  clear k1
  go_enter Tryz.func260,Tryz.ntmps260
  go_wp2
  go_ret
  exact ⟨by rw [E.out];rfl,Hg.out⟩
end Go.Proofs.YtfkcpaahdlkcdaaGreat

import Derived.Test.YtfkcpaahdlkcdaaGreatRRecvSum01
set_option linter.unusedSimpArgs false
set_option linter.unusedVariables false
set_option maxRecDepth 100000
set_option maxHeartbeats 16000000
namespace Go.Proofs.YtfkcpaahdlkcdaaGreat
open Go.RowKit
theorem zLC (x:Int) (w:World) (hx:0≤x) (hx2:x≤18446744073709551615):Calls Tryz.prog 278 #[.agg #[.int .i64 0,.int .i64 2],.int .u64 x] w fun e w'=>e=.returned (.int .u64 (x/1%4))∧Grow w w' :=
 zUA 0 2 x w (by omega) (by omega) (by omega) (by omega) hx hx2
theorem zyG (x:Int) (w:World) (hx:0≤x) (hx2:x≤18446744073709551615):Calls Tryz.prog 278 #[.agg #[.int .i64 2,.int .i64 30],.int .u64 x] w fun e w'=>e=.returned (.int .u64 (x/4%1073741824))∧Grow w w' :=
 zUA 2 30 x w (by omega) (by omega) (by omega) (by omega) hx hx2
theorem zQJ (x:Int) (w:World) (hx:0≤x) (hx2:x≤18446744073709551615):Calls Tryz.prog 278 #[.agg #[.int .i64 32,.int .i64 16],.int .u64 x] w fun e w'=>e=.returned (.int .u64 (x/4294967296%65536))∧Grow w w' :=
 zUA 32 16 x w (by omega) (by omega) (by omega) (by omega) hx hx2
theorem zRJ (x:Int) (w:World) (hx:0≤x) (hx2:x≤18446744073709551615):Calls Tryz.prog 278 #[.agg #[.int .i64 48,.int .i64 16],.int .u64 x] w fun e w'=>e=.returned (.int .u64 (x/281474976710656%65536))∧Grow w w' :=
 zUA 48 16 x w (by omega) (by omega) (by omega) (by omega) hx hx2
theorem zSJ (x:Int) (w:World) (hx:0≤x) (hx2:x≤18446744073709551615):Calls Tryz.prog 278 #[.agg #[.int .i64 32,.int .i64 3],.int .u64 x] w fun e w'=>e=.returned (.int .u64 (x/4294967296%8))∧Grow w w' :=
 zUA 32 3 x w (by omega) (by omega) (by omega) (by omega) hx hx2
theorem zII (x:Int) (w:World) (hx:0≤x) (hx2:x≤18446744073709551615):Calls Tryz.prog 278 #[.agg #[.int .i64 35,.int .i64 29],.int .u64 x] w fun e w'=>e=.returned (.int .u64 (x/34359738368%536870912))∧Grow w w' :=
 zUA 35 29 x w (by omega) (by omega) (by omega) (by omega) hx hx2
theorem zTH (x:Int) (w:World) (hx:0≤x) (hx2:x≤18446744073709551615):Calls Tryz.prog 278 #[.agg #[.int .i64 2,.int .i64 1],.int .u64 x] w fun e w'=>e=.returned (.int .u64 (x/4%2))∧Grow w w' :=
 zUA 2 1 x w (by omega) (by omega) (by omega) (by omega) hx hx2
theorem zJI (x:Int) (w:World) (hx:0≤x) (hx2:x≤18446744073709551615):Calls Tryz.prog 278 #[.agg #[.int .i64 3,.int .i64 29],.int .u64 x] w fun e w'=>e=.returned (.int .u64 (x/8%536870912))∧Grow w w' :=
 zUA 3 29 x w (by omega) (by omega) (by omega) (by omega) hx hx2
theorem zcK (x:Int) (w:World) (hx:0≤x) (hx2:x≤18446744073709551615):Calls Tryz.prog 278 #[.agg #[.int .i64 32,.int .i64 32],.int .u64 x] w fun e w'=>e=.returned (.int .u64 (x/4294967296%4294967296))∧Grow w w' :=
 zUA 32 32 x w (by omega) (by omega) (by omega) (by omega) hx hx2
theorem zA {w:World} {g T:Nat} {a0 a1 a2 a3 a4:Value} (h:w.heap[g]? = some (.cells #[a0,a1,a2,a3,a4] T (0,0))):w.cell? ⟨g,0,none⟩=some a0∧w.cell? ⟨g,1,none⟩=some a1∧w.cell? ⟨g,2,none⟩=some a2∧w.cell? ⟨g,3,none⟩=some a3∧w.cell? ⟨g,4,none⟩=some a4∧∀ o,w.frozen? ⟨g,o,none⟩=false :=
 ⟨World.news_of_block h 0 _ rfl,World.news_of_block h 1 _ rfl,World.news_of_block h 2 _ rfl,World.news_of_block h 3 _ rfl,World.news_of_block h 4 _ rfl,fun o=>zM o h⟩
theorem zZ {w0 w:World} {g T:Nat} {a0 a1 a2 a3 a4:Value} (n0 n1 n2 n3 n4:Value) (hg:Grow w0 w) (hge:w0.heap.size≤g) (h:w.heap[g]? = some (.cells #[a0,a1,a2,a3,a4] T (0,0))) :
    (((((w.setCell ⟨g,0,none⟩ n0).setCell ⟨g,1,none⟩ n1).setCell ⟨g,2,none⟩ n2).setCell ⟨g,3,none⟩ n3).setCell ⟨g,4,none⟩ n4).heap[g]? = some (.cells #[n0,n1,n2,n3,n4] T (0,0))∧Grow w0 (((((w.setCell ⟨g,0,none⟩ n0).setCell ⟨g,1,none⟩ n1).setCell ⟨g,2,none⟩ n2).setCell ⟨g,3,none⟩ n3).setCell ⟨g,4,none⟩ n4):=by
 refine ⟨?_,(((((hg.setCell (p:=⟨g,0,none⟩) (.inr hge) _).setCell (p:=⟨g,1,none⟩) (.inr hge) _).setCell (p:=⟨g,2,none⟩) (.inr hge) _).setCell (p:=⟨g,3,none⟩) (.inr hge) _).setCell (p:=⟨g,4,none⟩) (.inr hge) _)⟩
 simp only [World.setCell,Array.getElem?_modify]
 simp [h]
theorem zC {w:World} {g T:Nat} {a0 a1 a2 a3 a4 a5 a6:Value} (h:w.heap[g]? = some (.cells #[a0,a1,a2,a3,a4,a5,a6] T (0,0))):w.cell? ⟨g,0,none⟩=some a0∧w.cell? ⟨g,1,none⟩=some a1∧w.cell? ⟨g,2,none⟩=some a2∧w.cell? ⟨g,3,none⟩=some a3∧w.cell? ⟨g,4,none⟩=some a4∧w.cell? ⟨g,5,none⟩=some a5∧w.cell? ⟨g,6,none⟩=some a6∧∀ o,w.frozen? ⟨g,o,none⟩=false :=
 ⟨World.news_of_block h 0 _ rfl,World.news_of_block h 1 _ rfl,World.news_of_block h 2 _ rfl,World.news_of_block h 3 _ rfl,World.news_of_block h 4 _ rfl,World.news_of_block h 5 _ rfl,World.news_of_block h 6 _ rfl,fun o=>zM o h⟩
theorem zh {w0 w:World} {g T:Nat} {a0 a1 a2 a3 a4 a5 a6:Value} (n0 n1 n2 n3 n4 n5 n6:Value) (hg:Grow w0 w) (hge:w0.heap.size≤g) (h:w.heap[g]? = some (.cells #[a0,a1,a2,a3,a4,a5,a6] T (0,0))) :
    (((((((w.setCell ⟨g,0,none⟩ n0).setCell ⟨g,1,none⟩ n1).setCell ⟨g,2,none⟩ n2).setCell ⟨g,3,none⟩ n3).setCell ⟨g,4,none⟩ n4).setCell ⟨g,5,none⟩ n5).setCell ⟨g,6,none⟩ n6).heap[g]? = some (.cells #[n0,n1,n2,n3,n4,n5,n6] T (0,0))∧Grow w0 (((((((w.setCell ⟨g,0,none⟩ n0).setCell ⟨g,1,none⟩ n1).setCell ⟨g,2,none⟩ n2).setCell ⟨g,3,none⟩ n3).setCell ⟨g,4,none⟩ n4).setCell ⟨g,5,none⟩ n5).setCell ⟨g,6,none⟩ n6):=by
 refine ⟨?_,(((((((hg.setCell (p:=⟨g,0,none⟩) (.inr hge) _).setCell (p:=⟨g,1,none⟩) (.inr hge) _).setCell (p:=⟨g,2,none⟩) (.inr hge) _).setCell (p:=⟨g,3,none⟩) (.inr hge) _).setCell (p:=⟨g,4,none⟩) (.inr hge) _).setCell (p:=⟨g,5,none⟩) (.inr hge) _).setCell (p:=⟨g,6,none⟩) (.inr hge) _)⟩
 simp only [World.setCell,Array.getElem?_modify]
 simp [h]
theorem zO {w:World} {g T:Nat} {a0 a1 a2 a3 a4 a5 a6 a7:Value} (h:w.heap[g]? = some (.cells #[a0,a1,a2,a3,a4,a5,a6,a7] T (0,0))):w.cell? ⟨g,0,none⟩=some a0∧w.cell? ⟨g,1,none⟩=some a1∧w.cell? ⟨g,2,none⟩=some a2∧w.cell? ⟨g,3,none⟩=some a3∧w.cell? ⟨g,4,none⟩=some a4∧w.cell? ⟨g,5,none⟩=some a5∧w.cell? ⟨g,6,none⟩=some a6∧w.cell? ⟨g,7,none⟩=some a7∧∀ o,w.frozen? ⟨g,o,none⟩=false :=
 ⟨World.news_of_block h 0 _ rfl,World.news_of_block h 1 _ rfl,World.news_of_block h 2 _ rfl,World.news_of_block h 3 _ rfl,World.news_of_block h 4 _ rfl,World.news_of_block h 5 _ rfl,World.news_of_block h 6 _ rfl,World.news_of_block h 7 _ rfl,fun o=>zM o h⟩
theorem zIB {w0 w:World} {g T:Nat} {a0 a1 a2 a3 a4 a5 a6 a7:Value} (n0 n1 n2 n3 n4 n5 n6 n7:Value) (hg:Grow w0 w) (hge:w0.heap.size≤g) (h:w.heap[g]? = some (.cells #[a0,a1,a2,a3,a4,a5,a6,a7] T (0,0))) :
    ((((((((w.setCell ⟨g,0,none⟩ n0).setCell ⟨g,1,none⟩ n1).setCell ⟨g,2,none⟩ n2).setCell ⟨g,3,none⟩ n3).setCell ⟨g,4,none⟩ n4).setCell ⟨g,5,none⟩ n5).setCell ⟨g,6,none⟩ n6).setCell ⟨g,7,none⟩ n7).heap[g]? = some (.cells #[n0,n1,n2,n3,n4,n5,n6,n7] T (0,0))∧Grow w0 ((((((((w.setCell ⟨g,0,none⟩ n0).setCell ⟨g,1,none⟩ n1).setCell ⟨g,2,none⟩ n2).setCell ⟨g,3,none⟩ n3).setCell ⟨g,4,none⟩ n4).setCell ⟨g,5,none⟩ n5).setCell ⟨g,6,none⟩ n6).setCell ⟨g,7,none⟩ n7):=by
 refine ⟨?_,((((((((hg.setCell (p:=⟨g,0,none⟩) (.inr hge) _).setCell (p:=⟨g,1,none⟩) (.inr hge) _).setCell (p:=⟨g,2,none⟩) (.inr hge) _).setCell (p:=⟨g,3,none⟩) (.inr hge) _).setCell (p:=⟨g,4,none⟩) (.inr hge) _).setCell (p:=⟨g,5,none⟩) (.inr hge) _).setCell (p:=⟨g,6,none⟩) (.inr hge) _).setCell (p:=⟨g,7,none⟩) (.inr hge) _)⟩
 simp only [World.setCell,Array.getElem?_modify]
 simp [h]
theorem Grow.heap {w w':World} {g:Nat} {o:Obj} (hg:Grow w w') (h:w.heap[g]? = some o):w'.heap[g]? = some o :=
 (hg.block g (gE h).1 (fun h=>h)).trans h
def sg30 (n:Int):Int:=if n<536870912 then n else n-1073741824
theorem zdK {n:Int} (h0:0≤n) (h1:n<1073741824):sg30 n=wrap64 (n*17179869184)/17179869184:=by
 unfold sg30 wrap64
 split <;> omega
theorem zeC (n:Int) (w:World) (h0:0≤n) (h1:n<1073741824):Calls Tryz.prog 286 #[.int .u64 n,.int .i64 30] w fun e w'=>e=.returned (.int .i64 (sg30 n))∧w=w':=by
 go_enter Tryz.func286,Tryz.ntmps286
 go_wp2
 go_ret
 rw [zdK h0 h1]
 exact ⟨rfl,rfl⟩
structure Pt where
 kind:Int
 off:Int
 data:Int
 ptrs:Int
 size:Int
 count:Int
 seg:Int
 dbl:Bool
def Pt.cs (p:Pt):Array Value:=#[.int .i64 p.kind,.int .i64 p.off,.int .i64 p.data,.int .i64 p.ptrs,.int .i64 p.size,.int .i64 p.count,.int .i64 p.seg,.bool p.dbl]
def pt0:Pt:=⟨0,0,0,0,0,0,0,false⟩
def ptrDec (x:Int):Pt×Int :=
 if x=0 then (pt0,0)
 else if x%4=0 then (⟨1,sg30 (x/4%1073741824),x/4294967296%65536,x/281474976710656%65536,0,0,0,false⟩,0)
 else if x%4=1 then (⟨2,sg30 (x/4%1073741824),0,0,x/4294967296%8,x/34359738368%536870912,0,false⟩,0)
 else if x%4=2 then (⟨3,x/8%536870912,0,0,0,0,x/4294967296%4294967296,(x/4%2==1)⟩,0)
 else (pt0,23)
def DecPost (x:Int) (w:World) (e:Ending) (w':World):Prop:=e=.returned (.tuple #[.agg #[.int .i64 (ptrDec x).1.kind,.int .i64 (ptrDec x).1.off,.int .i64 (ptrDec x).1.data,.int .i64 (ptrDec x).1.ptrs,.int .i64 (ptrDec x).1.size,.int .i64 (ptrDec x).1.count,.int .i64 (ptrDec x).1.seg,.bool (ptrDec x).1.dbl],.int .u16 (ptrDec x).2])∧Grow w w'
theorem zm {w:World} {g:Nat} {p:Addr} (u:Value) (h:g≠p.block):(w.setCell p u).heap[g]? = w.heap[g]? := RowKit.Below.heap_setCell _ _ _ _ h
theorem zU (w:World) (o1 o2:Obj):((w.alloc o1).alloc o2).heap[w.heap.size]? = some o1∧((w.alloc o1).alloc o2).heap[w.heap.size+1]? = some o2∧Grow w ((w.alloc o1).alloc o2):=by
 have h1:=heap_alloc_new w o1
 have h2:=((Keep.refl NoB (w.alloc o1)).alloc o2).block w.heap.size (by simp) (fun h=>h)
 have h3:=heap_alloc_new (w.alloc o1) o2
 exact ⟨h2.trans h1,by simpa using h3,((Keep.refl _ _).alloc _).alloc _⟩
theorem zTJ (w:World):Calls Tryz.prog 272 #[.int .u64 0] w (DecPost 0 w):=by
 go_enter Tryz.func272,Tryz.ntmps272
 go_wp2
 (try simp only [Exit.inBlock,Exit.then])
 refine bodyPost_ret (v:=.tuple #[.agg pt0.cs,.int .u16 0]) ?_ rfl ⟨rfl,(Keep.refl _ _).alloc _⟩
 rw [results_cell_tmp rfl];go_simp
 rfl
theorem zVG (x:Int) (w:World) (hx:0≤x) (hx2:x≤18446744073709551615) (h0:¬ x=0) (hm:x%4=0):Calls Tryz.prog 272 #[.int .u64 x] w (DecPost x w):=by
 have h0b:(x==0)=false:=beq_eq_false_iff_ne.2 h0
 have m0:(x%4==0)=true:=beq_iff_eq.2 hm
 have m1:(x%4==1)=false:=beq_eq_false_iff_ne.2 (by omega)
 have m2:(x%4==2)=false:=beq_eq_false_iff_ne.2 (by omega)
 obtain ⟨hB0,hB1,hG⟩:=zU w (.cells #[.int .i64 0,.int .i64 0,.int .i64 0,.int .i64 0,.int .i64 0,.int .i64 0,.int .i64 0,.bool false] 120) (.cells #[.int .i64 0,.int .i64 0,.int .i64 0,.int .i64 0,.int .i64 0,.int .i64 0,.int .i64 0,.bool false] 120)
 have HB0:=LH hB0
 have HB1:=LH hB1
 have HG:=LH hG
 have Hm:=LH (And.intro h0 hm)
 clear hB0 hB1 hG hm h0
 have hfd:∀ w:World,(Instr.field 374 (.agg #[.int .i64 2,.int .i64 30]) 1).run Tryz.prog w=.ok (.int .i64 30) w:=fun _=>by kernel_rfl
 go_enter Tryz.func272,Tryz.ntmps272
 go_wp2_with fail
 refine (zWB _).mono ?_
 rintro e w1 ⟨rfl,hg⟩
 replace HB0:=LH (hg.heap HB0.out)
 replace HB1:=LH (hg.heap HB1.out)
 replace HG:=LH (HG.out.grow hg)
 clear hg
 go_wp2_with fail
 refine (zLC x _ hx hx2).mono ?_
 rintro e w2 ⟨rfl,hg⟩
 replace HB0:=LH (hg.heap HB0.out)
 replace HB1:=LH (hg.heap HB1.out)
 replace HG:=LH (HG.out.grow hg)
 clear hg
 go_wp2_with fail
 refine (zSG _).mono ?_
 rintro e w3 ⟨rfl,hg⟩
 replace HB0:=LH (hg.heap HB0.out)
 replace HB1:=LH (hg.heap HB1.out)
 replace HG:=LH (HG.out.grow hg)
 clear hg
 go_wp2_with fail
 refine (zQJ x _ hx hx2).mono ?_
 rintro e w4 ⟨rfl,hg⟩
 replace HB0:=LH (hg.heap HB0.out)
 replace HB1:=LH (hg.heap HB1.out)
 replace HG:=LH (HG.out.grow hg)
 clear hg
 go_wp2_with fail
 refine (zTG _).mono ?_
 rintro e w5 ⟨rfl,hg⟩
 replace HB0:=LH (hg.heap HB0.out)
 replace HB1:=LH (hg.heap HB1.out)
 replace HG:=LH (HG.out.grow hg)
 clear hg
 go_wp2_with fail
 refine (zRJ x _ hx hx2).mono ?_
 rintro e w6 ⟨rfl,hg⟩
 replace HB0:=LH (hg.heap HB0.out)
 replace HB1:=LH (hg.heap HB1.out)
 replace HG:=LH (HG.out.grow hg)
 clear hg
 obtain ⟨c0,c1,c2,c3,c4,c5,c6,c7,cf⟩:=zO HB1.out
 have hsz:=HG.out.size
 have hb2:=LH (zIB (.int .i64 1) (.int .i64 0) (.int .i64 (x/4294967296%65536)) (.int .i64 (x/281474976710656%65536)) (.int .i64 0) (.int .i64 0) (.int .i64 0) (.bool false) HG.out (by omega) HB1.out)
 have hB0':((((((((w6.setCell ⟨w.heap.size+1,0,none⟩ (.int .i64 1)).setCell ⟨w.heap.size+1,1,none⟩ (.int .i64 0)).setCell ⟨w.heap.size+1,2,none⟩ (.int .i64 (x/4294967296%65536))).setCell ⟨w.heap.size+1,3,none⟩ (.int .i64 (x/281474976710656%65536))).setCell ⟨w.heap.size+1,4,none⟩ (.int .i64 0)).setCell ⟨w.heap.size+1,5,none⟩ (.int .i64 0)).setCell ⟨w.heap.size+1,6,none⟩ (.int .i64 0)).setCell ⟨w.heap.size+1,7,none⟩ (.bool false)).heap[w.heap.size]? = some (.cells #[.int .i64 0,.int .i64 0,.int .i64 0,.int .i64 0,.int .i64 0,.int .i64 0,.int .i64 0,.bool false] 120):=by
  refine Eq.trans ?_ HB0.out
  iterate 7 refine (zm _ (by simp)).trans ?_
  exact zm _ (by simp)
 replace HB0:=LH hB0'
 replace HB1:=LH hb2.out.1
 replace HG:=LH hb2.out.2
 clear hB0' hb2
 go_wp2_with fail
 refine (zeB _).mono ?_
 rintro e w7 ⟨rfl,hg⟩
 replace HB0:=LH (hg.heap HB0.out)
 replace HB1:=LH (hg.heap HB1.out)
 replace HG:=LH (HG.out.grow hg)
 clear hg c0 c1 c2 c3 c4 c5 c6 c7 cf
 go_wp2_with fail
 refine (zyG x _ hx hx2).mono ?_
 rintro e w8 ⟨rfl,hg⟩
 replace HB0:=LH (hg.heap HB0.out)
 replace HB1:=LH (hg.heap HB1.out)
 replace HG:=LH (HG.out.grow hg)
 clear hg
 go_wp2_with fail
 refine (zeB _).mono ?_
 rintro e w9 ⟨rfl,hg⟩
 replace HB0:=LH (hg.heap HB0.out)
 replace HB1:=LH (hg.heap HB1.out)
 replace HG:=LH (HG.out.grow hg)
 clear hg
 go_wp2_with fail
 refine (zeC (x/4%1073741824) _ (by omega) (by omega)).mono ?_
 rintro e w10 ⟨rfl,rfl⟩
 obtain ⟨c0,c1,c2,c3,c4,c5,c6,c7,cf⟩:=zO HB1.out
 obtain ⟨b0,b1,b2,b3,b4,b5,b6,b7,bf⟩:=zO HB0.out
 have hG2:=LH (HG.out.setCell (p:=⟨w.heap.size+1,1,none⟩) (.inr (by simp)) (.int .i64 (sg30 (x/4%1073741824))))
 have hB2:=LH ((zm (w:=w9) (p:=⟨w.heap.size+1,1,none⟩) (.int .i64 (sg30 (x/4%1073741824))) (by simp)).trans HB0.out)
 have hst:=LH (zIB (.int .i64 1) (.int .i64 (sg30 (x/4%1073741824))) (.int .i64 (x/4294967296%65536)) (.int .i64 (x/281474976710656%65536)) (.int .i64 0) (.int .i64 0) (.int .i64 0) (.bool false) hG2.out (Nat.le_refl _) hB2.out)
 go_wp2
 (try simp only [Exit.inBlock,Exit.then])
 obtain ⟨r0,r1,r2,r3,r4,r5,r6,r7,rf⟩:=zO hst.out.1
 refine bodyPost_ret (v:=.tuple #[.agg #[.int .i64 1,.int .i64 (sg30 (x/4%1073741824)),.int .i64 (x/4294967296%65536),.int .i64 (x/281474976710656%65536),.int .i64 0,.int .i64 0,.int .i64 0,.bool false],.int .u16 0]) ?_ rfl ⟨?_,hst.out.2⟩
 ·rw [results_cell_tmp rfl];go_simp
 ·simp only [ptrDec,if_neg Hm.out.1,Hm.out.2,Pt.cs,if_true]
  all_goals rfl
theorem zKI (x:Int) (w:World) (hx:0≤x) (hx2:x≤18446744073709551615) (h0:¬ x=0) (hm:x%4=1):Calls Tryz.prog 272 #[.int .u64 x] w (DecPost x w):=by
 have h0b:(x==0)=false:=beq_eq_false_iff_ne.2 h0
 have m0:(x%4==0)=false:=beq_eq_false_iff_ne.2 (by omega)
 have m1:(x%4==1)=true:=beq_iff_eq.2 hm
 have m2:(x%4==2)=false:=beq_eq_false_iff_ne.2 (by omega)
 obtain ⟨hB0,hB1,hG⟩:=zU w (.cells #[.int .i64 0,.int .i64 0,.int .i64 0,.int .i64 0,.int .i64 0,.int .i64 0,.int .i64 0,.bool false] 120) (.cells #[.int .i64 0,.int .i64 0,.int .i64 0,.int .i64 0,.int .i64 0,.int .i64 0,.int .i64 0,.bool false] 120)
 have HB0:=LH hB0
 have HB1:=LH hB1
 have HG:=LH hG
 have Hm:=LH (And.intro h0 hm)
 clear hB0 hB1 hG hm h0
 have hfd:∀ w:World,(Instr.field 374 (.agg #[.int .i64 2,.int .i64 30]) 1).run Tryz.prog w=.ok (.int .i64 30) w:=fun _=>by kernel_rfl
 go_enter Tryz.func272,Tryz.ntmps272
 go_wp2_with fail
 refine (zWB _).mono ?_
 rintro e w1 ⟨rfl,hg⟩
 replace HB0:=LH (hg.heap HB0.out)
 replace HB1:=LH (hg.heap HB1.out)
 replace HG:=LH (HG.out.grow hg)
 clear hg
 go_wp2_with fail
 refine (zLC x _ hx hx2).mono ?_
 rintro e w2 ⟨rfl,hg⟩
 replace HB0:=LH (hg.heap HB0.out)
 replace HB1:=LH (hg.heap HB1.out)
 replace HG:=LH (HG.out.grow hg)
 clear hg
 go_wp2_with fail
 refine (zUG _).mono ?_
 rintro e w3 ⟨rfl,hg⟩
 replace HB0:=LH (hg.heap HB0.out)
 replace HB1:=LH (hg.heap HB1.out)
 replace HG:=LH (HG.out.grow hg)
 clear hg
 go_wp2_with fail
 refine (zSJ x _ hx hx2).mono ?_
 rintro e w4 ⟨rfl,hg⟩
 replace HB0:=LH (hg.heap HB0.out)
 replace HB1:=LH (hg.heap HB1.out)
 replace HG:=LH (HG.out.grow hg)
 clear hg
 go_wp2_with fail
 refine (zMF _).mono ?_
 rintro e w5 ⟨rfl,hg⟩
 replace HB0:=LH (hg.heap HB0.out)
 replace HB1:=LH (hg.heap HB1.out)
 replace HG:=LH (HG.out.grow hg)
 clear hg
 go_wp2_with fail
 refine (zII x _ hx hx2).mono ?_
 rintro e w6 ⟨rfl,hg⟩
 replace HB0:=LH (hg.heap HB0.out)
 replace HB1:=LH (hg.heap HB1.out)
 replace HG:=LH (HG.out.grow hg)
 clear hg
 obtain ⟨c0,c1,c2,c3,c4,c5,c6,c7,cf⟩:=zO HB1.out
 have hsz:=HG.out.size
 have hb2:=LH (zIB (.int .i64 2) (.int .i64 0) (.int .i64 0) (.int .i64 0) (.int .i64 (x/4294967296%8)) (.int .i64 (x/34359738368%536870912)) (.int .i64 0) (.bool false) HG.out (by omega) HB1.out)
 have hB0':((((((((w6.setCell ⟨w.heap.size+1,0,none⟩ (.int .i64 2)).setCell ⟨w.heap.size+1,1,none⟩ (.int .i64 0)).setCell ⟨w.heap.size+1,2,none⟩ (.int .i64 0)).setCell ⟨w.heap.size+1,3,none⟩ (.int .i64 0)).setCell ⟨w.heap.size+1,4,none⟩ (.int .i64 (x/4294967296%8))).setCell ⟨w.heap.size+1,5,none⟩ (.int .i64 (x/34359738368%536870912))).setCell ⟨w.heap.size+1,6,none⟩ (.int .i64 0)).setCell ⟨w.heap.size+1,7,none⟩ (.bool false)).heap[w.heap.size]? = some (.cells #[.int .i64 0,.int .i64 0,.int .i64 0,.int .i64 0,.int .i64 0,.int .i64 0,.int .i64 0,.bool false] 120):=by
  refine Eq.trans ?_ HB0.out
  iterate 7 refine (zm _ (by simp)).trans ?_
  exact zm _ (by simp)
 replace HB0:=LH hB0'
 replace HB1:=LH hb2.out.1
 replace HG:=LH hb2.out.2
 clear hB0' hb2
 go_wp2_with fail
 refine (zeB _).mono ?_
 rintro e w7 ⟨rfl,hg⟩
 replace HB0:=LH (hg.heap HB0.out)
 replace HB1:=LH (hg.heap HB1.out)
 replace HG:=LH (HG.out.grow hg)
 clear hg c0 c1 c2 c3 c4 c5 c6 c7 cf
 go_wp2_with fail
 refine (zyG x _ hx hx2).mono ?_
 rintro e w8 ⟨rfl,hg⟩
 replace HB0:=LH (hg.heap HB0.out)
 replace HB1:=LH (hg.heap HB1.out)
 replace HG:=LH (HG.out.grow hg)
 clear hg
 go_wp2_with fail
 refine (zeB _).mono ?_
 rintro e w9 ⟨rfl,hg⟩
 replace HB0:=LH (hg.heap HB0.out)
 replace HB1:=LH (hg.heap HB1.out)
 replace HG:=LH (HG.out.grow hg)
 clear hg
 go_wp2_with fail
 refine (zeC (x/4%1073741824) _ (by omega) (by omega)).mono ?_
 rintro e w10 ⟨rfl,rfl⟩
 obtain ⟨c0,c1,c2,c3,c4,c5,c6,c7,cf⟩:=zO HB1.out
 obtain ⟨b0,b1,b2,b3,b4,b5,b6,b7,bf⟩:=zO HB0.out
 have hG2:=LH (HG.out.setCell (p:=⟨w.heap.size+1,1,none⟩) (.inr (by simp)) (.int .i64 (sg30 (x/4%1073741824))))
 have hB2:=LH ((zm (w:=w9) (p:=⟨w.heap.size+1,1,none⟩) (.int .i64 (sg30 (x/4%1073741824))) (by simp)).trans HB0.out)
 have hst:=LH (zIB (.int .i64 2) (.int .i64 (sg30 (x/4%1073741824))) (.int .i64 0) (.int .i64 0) (.int .i64 (x/4294967296%8)) (.int .i64 (x/34359738368%536870912)) (.int .i64 0) (.bool false) hG2.out (Nat.le_refl _) hB2.out)
 go_wp2
 (try simp only [Exit.inBlock,Exit.then])
 obtain ⟨r0,r1,r2,r3,r4,r5,r6,r7,rf⟩:=zO hst.out.1
 refine bodyPost_ret (v:=.tuple #[.agg #[.int .i64 2,.int .i64 (sg30 (x/4%1073741824)),.int .i64 0,.int .i64 0,.int .i64 (x/4294967296%8),.int .i64 (x/34359738368%536870912),.int .i64 0,.bool false],.int .u16 0]) ?_ rfl ⟨?_,hst.out.2⟩
 ·rw [results_cell_tmp rfl];go_simp
 ·simp only [ptrDec,if_neg Hm.out.1,Hm.out.2,Pt.cs,if_true]
  all_goals rfl
theorem zUJ (x:Int) (w:World) (hx:0≤x) (hx2:x≤18446744073709551615) (h0:¬ x=0) (hm:x%4=2):Calls Tryz.prog 272 #[.int .u64 x] w (DecPost x w):=by
 have h0b:(x==0)=false:=beq_eq_false_iff_ne.2 h0
 have m0:(x%4==0)=false:=beq_eq_false_iff_ne.2 (by omega)
 have m1:(x%4==1)=false:=beq_eq_false_iff_ne.2 (by omega)
 have m2:(x%4==2)=true:=beq_iff_eq.2 hm
 obtain ⟨hB0,hB1,hG⟩:=zU w (.cells #[.int .i64 0,.int .i64 0,.int .i64 0,.int .i64 0,.int .i64 0,.int .i64 0,.int .i64 0,.bool false] 120) (.cells #[.int .i64 0,.int .i64 0,.int .i64 0,.int .i64 0,.int .i64 0,.int .i64 0,.int .i64 0,.bool false] 120)
 have HB0:=LH hB0
 have HB1:=LH hB1
 have HG:=LH hG
 have Hm:=LH (And.intro h0 hm)
 clear hB0 hB1 hG hm h0
 have hfd:∀ w:World,(Instr.field 374 (.agg #[.int .i64 2,.int .i64 30]) 1).run Tryz.prog w=.ok (.int .i64 30) w:=fun _=>by kernel_rfl
 go_enter Tryz.func272,Tryz.ntmps272
 go_wp2_with fail
 refine (zWB _).mono ?_
 rintro e w1 ⟨rfl,hg⟩
 replace HB0:=LH (hg.heap HB0.out)
 replace HB1:=LH (hg.heap HB1.out)
 replace HG:=LH (HG.out.grow hg)
 clear hg
 go_wp2_with fail
 refine (zLC x _ hx hx2).mono ?_
 rintro e w2 ⟨rfl,hg⟩
 replace HB0:=LH (hg.heap HB0.out)
 replace HB1:=LH (hg.heap HB1.out)
 replace HG:=LH (HG.out.grow hg)
 clear hg
 go_wp2_with fail
 refine (zNF _).mono ?_
 rintro e w3 ⟨rfl,hg⟩
 replace HB0:=LH (hg.heap HB0.out)
 replace HB1:=LH (hg.heap HB1.out)
 replace HG:=LH (HG.out.grow hg)
 clear hg
 go_wp2_with fail
 refine (zJI x _ hx hx2).mono ?_
 rintro e w4 ⟨rfl,hg⟩
 replace HB0:=LH (hg.heap HB0.out)
 replace HB1:=LH (hg.heap HB1.out)
 replace HG:=LH (HG.out.grow hg)
 clear hg
 go_wp2_with fail
 refine (zSH _).mono ?_
 rintro e w5 ⟨rfl,hg⟩
 replace HB0:=LH (hg.heap HB0.out)
 replace HB1:=LH (hg.heap HB1.out)
 replace HG:=LH (HG.out.grow hg)
 clear hg
 go_wp2_with fail
 refine (zcK x _ hx hx2).mono ?_
 rintro e w6 ⟨rfl,hg⟩
 replace HB0:=LH (hg.heap HB0.out)
 replace HB1:=LH (hg.heap HB1.out)
 replace HG:=LH (HG.out.grow hg)
 clear hg
 go_wp2_with fail
 refine (zrE _).mono ?_
 rintro e w7 ⟨rfl,hg⟩
 replace HB0:=LH (hg.heap HB0.out)
 replace HB1:=LH (hg.heap HB1.out)
 replace HG:=LH (HG.out.grow hg)
 clear hg
 go_wp2_with fail
 refine (zTH x _ hx hx2).mono ?_
 rintro e w8 ⟨rfl,hg⟩
 replace HB0:=LH (hg.heap HB0.out)
 replace HB1:=LH (hg.heap HB1.out)
 replace HG:=LH (HG.out.grow hg)
 clear hg
 obtain ⟨b0,b1,b2,b3,b4,b5,b6,b7,bf⟩:=zO HB0.out
 have hst:=LH (zIB (.int .i64 3) (.int .i64 (x/8%536870912)) (.int .i64 0) (.int .i64 0) (.int .i64 0) (.int .i64 0) (.int .i64 (x/4294967296%4294967296)) (.bool (x/4%2==1)) HG.out (Nat.le_refl _) HB0.out)
 go_wp2
 (try simp only [Exit.inBlock,Exit.then])
 obtain ⟨r0,r1,r2,r3,r4,r5,r6,r7,rf⟩:=zO hst.out.1
 refine bodyPost_ret (v:=.tuple #[.agg #[.int .i64 3,.int .i64 (x/8%536870912),.int .i64 0,.int .i64 0,.int .i64 0,.int .i64 0,.int .i64 (x/4294967296%4294967296),.bool (x/4%2==1)],.int .u16 0]) ?_ rfl ⟨?_,hst.out.2⟩
 ·rw [results_cell_tmp rfl];go_simp
 ·simp only [ptrDec,if_neg Hm.out.1,Hm.out.2,Pt.cs,if_true]
  all_goals rfl
theorem zVJ (x:Int) (w:World) (hx:0≤x) (hx2:x≤18446744073709551615) (h0:¬ x=0) (hm:x%4=3):Calls Tryz.prog 272 #[.int .u64 x] w (DecPost x w):=by
 have h0b:(x==0)=false:=beq_eq_false_iff_ne.2 h0
 have m0:(x%4==0)=false:=beq_eq_false_iff_ne.2 (by omega)
 have m1:(x%4==1)=false:=beq_eq_false_iff_ne.2 (by omega)
 have m2:(x%4==2)=false:=beq_eq_false_iff_ne.2 (by omega)
 obtain ⟨hB0,hB1,hG⟩:=zU w (.cells #[.int .i64 0,.int .i64 0,.int .i64 0,.int .i64 0,.int .i64 0,.int .i64 0,.int .i64 0,.bool false] 120) (.cells #[.int .i64 0,.int .i64 0,.int .i64 0,.int .i64 0,.int .i64 0,.int .i64 0,.int .i64 0,.bool false] 120)
 have HB0:=LH hB0
 have HB1:=LH hB1
 have HG:=LH hG
 have Hm:=LH (And.intro h0 hm)
 clear hB0 hB1 hG hm h0
 have hfd:∀ w:World,(Instr.field 374 (.agg #[.int .i64 2,.int .i64 30]) 1).run Tryz.prog w=.ok (.int .i64 30) w:=fun _=>by kernel_rfl
 go_enter Tryz.func272,Tryz.ntmps272
 go_wp2_with fail
 refine (zWB _).mono ?_
 rintro e w1 ⟨rfl,hg⟩
 replace HB0:=LH (hg.heap HB0.out)
 replace HB1:=LH (hg.heap HB1.out)
 replace HG:=LH (HG.out.grow hg)
 clear hg
 go_wp2_with fail
 refine (zLC x _ hx hx2).mono ?_
 rintro e w2 ⟨rfl,hg⟩
 replace HB0:=LH (hg.heap HB0.out)
 replace HB1:=LH (hg.heap HB1.out)
 replace HG:=LH (HG.out.grow hg)
 clear hg
 obtain ⟨b0,b1,b2,b3,b4,b5,b6,b7,bf⟩:=zO HB0.out
 obtain ⟨c0,c1,c2,c3,c4,c5,c6,c7,cf⟩:=zO HB1.out
 have hst:=LH (zIB (.int .i64 0) (.int .i64 0) (.int .i64 0) (.int .i64 0) (.int .i64 0) (.int .i64 0) (.int .i64 0) (.bool false) HG.out (Nat.le_refl _) HB0.out)
 go_wp2
 (try simp only [Exit.inBlock,Exit.then])
 obtain ⟨r0,r1,r2,r3,r4,r5,r6,r7,rf⟩:=zO hst.out.1
 refine bodyPost_ret (v:=.tuple #[.agg #[.int .i64 0,.int .i64 0,.int .i64 0,.int .i64 0,.int .i64 0,.int .i64 0,.int .i64 0,.bool false],.int .u16 23]) ?_ rfl ⟨?_,hst.out.2⟩
 ·rw [results_cell_tmp rfl];go_simp
 ·simp only [ptrDec,if_neg Hm.out.1,Hm.out.2,Pt.cs,if_true]
  all_goals rfl
theorem zMC (x:Int) (w:World) (hx:0≤x) (hx2:x≤18446744073709551615):Calls Tryz.prog 272 #[.int .u64 x] w (DecPost x w):=by
 by_cases h0:x=0
 ·subst h0;exact zTJ w
 by_cases h1:x%4=0
 ·exact zVG x w hx hx2 h0 h1
 by_cases h2:x%4=1
 ·exact zKI x w hx hx2 h0 h2
 by_cases h3:x%4=2
 ·exact zUJ x w hx hx2 h0 h3
 ·exact zVJ x w hx hx2 h0 (by omega)
structure PtOk (p:Pt):Prop where
 k:p.kind=0∨p.kind=1∨p.kind=2∨p.kind=3
 o : -536870912≤p.off∧p.off≤536870912
 d:0≤p.data∧p.data≤65535
 q:0≤p.ptrs∧p.ptrs≤65535
 s:0≤p.size∧p.size≤7
 c:0≤p.count∧p.count≤536870911
 g:0≤p.seg∧p.seg≤4294967295
theorem zOF:PtOk pt0:=by constructor <;> simp [pt0]
theorem zeK {n:Int} (h:0≤n) (h2:n<1073741824) : -536870912≤sg30 n∧sg30 n≤536870912:=by
 unfold sg30
 split <;> omega
theorem zZB (x:Int) (hx:0≤x):PtOk (ptrDec x).1:=by
 unfold ptrDec
 have hs:=zeK (n:=x/4%1073741824) (by omega) (by omega)
 split
 ·exact zOF
 split
 ·constructor <;> simp <;> omega
 split
 ·constructor <;> simp <;> omega
 split
 ·constructor <;> simp <;> omega
 ·exact zOF
def ptrWords (p:Pt):Int×Int :=
 if p.kind=0 then (0,0)
 else if p.kind=1 then (p.data+p.ptrs,0)
 else if p.kind=3 then (if p.dbl then 2 else 1,0)
 else if p.kind=2 then
  if p.size=2 then ((p.count+7)/8,0)
  else if p.size=5∨p.size=6 then (p.count,0)
  else (0,23)
 else (0,23)
def WordsPost (p:Pt) (w:World) (e:Ending) (w':World):Prop:=e=.returned (.tuple #[.int .i64 (ptrWords p).1,.int .u16 (ptrWords p).2])∧Grow w w'
theorem zfC (p:Pt) (w:World) (hp:PtOk p):Calls Tryz.prog 273 #[.agg p.cs] w (WordsPost p w):=by
 have hg:=(Keep.refl NoB w).alloc (.cells p.cs 120)
 have hd:=heap_alloc_new w (.cells p.cs 120)
 have hdat:=hp.d
 have hptr:=hp.q
 have hcnt:=hp.c
 obtain ⟨kind,off,data,ptrs,size,count,seg,dbl⟩:=p
 simp only [Pt.cs] at hg hd hdat hptr hcnt ⊢
 obtain ⟨c0,c1,c2,c3,c4,c5,c6,c7,cf⟩:=zO hd
 have Hg:=LH hg
 clear hg hd hp
 by_cases k0:kind=0
 ·subst k0
  go_enter Tryz.func273,Tryz.ntmps273
  go_wp2
  go_ret2
  exact ⟨rfl,Hg.out⟩
 have k0b:(kind==0)=false:=beq_eq_false_iff_ne.2 k0
 by_cases k1:kind=1
 ·subst k1
  clear k0
  go_enter Tryz.func273,Tryz.ntmps273
  go_wp2
  go_ret2
  exact ⟨rfl,Hg.out⟩
 have k1b:(kind==1)=false:=beq_eq_false_iff_ne.2 k1
 by_cases k3:kind=3
 ·subst k3
  clear k0 k1
  cases dbl
  all_goals
   go_enter Tryz.func273,Tryz.ntmps273
   go_wp2
   go_ret2
   exact ⟨rfl,Hg.out⟩
 have k3b:(kind==3)=false:=beq_eq_false_iff_ne.2 k3
 by_cases k2:kind=2
 ·subst k2
  clear k0 k1 k3
  by_cases s2:size=2
  ·subst s2
   go_enter Tryz.func273,Tryz.ntmps273
   go_wp2
   go_ret2
   refine ⟨?_,Hg.out⟩
   simp [ptrWords]
   omega
  have s2b:(size==2)=false:=beq_eq_false_iff_ne.2 s2
  by_cases s5:size=5
  ·subst s5
   clear s2
   go_enter Tryz.func273,Tryz.ntmps273
   go_wp2
   go_ret2
   exact ⟨rfl,Hg.out⟩
  have s5b:(size==5)=false:=beq_eq_false_iff_ne.2 s5
  by_cases s6:size=6
  ·subst s6
   clear s2 s5
   go_enter Tryz.func273,Tryz.ntmps273
   go_wp2
   go_ret2
   exact ⟨rfl,Hg.out⟩
  have s6b:(size==6)=false:=beq_eq_false_iff_ne.2 s6
  have E:Hid (ptrWords ⟨2,off,data,ptrs,size,count,seg,dbl⟩=(0,23)):=by
   refine LH ?_
   simp [ptrWords,s2,s5,s6]
  clear s2 s5 s6
  go_enter Tryz.func273,Tryz.ntmps273
  go_wp2
  go_ret2
  exact ⟨by rw [E.out];rfl,Hg.out⟩
 have k2b:(kind==2)=false:=beq_eq_false_iff_ne.2 k2
 have E:Hid (ptrWords ⟨kind,off,data,ptrs,size,count,seg,dbl⟩=(0,23)):=by
  refine LH ?_
  simp [ptrWords,k0,k1,k2,k3]
 clear k0 k1 k2 k3
 go_enter Tryz.func273,Tryz.ntmps273
 go_wp2
 go_ret2
 exact ⟨by rw [E.out];rfl,Hg.out⟩
structure Ob where
 kind:Int
 seg:Int
 at_:Int
 data:Int
 ptrs:Int
 size:Int
 count:Int
def Ob.cs (o:Ob):Array Value:=#[.int .i64 o.kind,.int .i64 o.seg,.int .i64 o.at_,.int .i64 o.data,.int .i64 o.ptrs,.int .i64 o.size,.int .i64 o.count]
def ob0:Ob:=⟨0,0,0,0,0,0,0⟩
def obP (o:Ob):Pt:=⟨o.kind,0,o.data,o.ptrs,o.size,o.count,0,false⟩
theorem zaE (o:Ob) (w:World):Calls Tryz.prog 274 #[.agg o.cs] w fun e w'=>e=.returned (.agg #[.int .i64 o.kind,.int .i64 0,.int .i64 o.data,.int .i64 o.ptrs,.int .i64 o.size,.int .i64 o.count,.int .i64 0,.bool false])∧Grow w w':=by
 simp only [Ob.cs,Pt.cs,obP]
 go_enter Tryz.func274,Tryz.ntmps274
 go_wp2
 (try simp only [Exit.inBlock,Exit.then])
 refine bodyPost_ret (v:=.agg #[.int .i64 o.kind,.int .i64 0,.int .i64 o.data,.int .i64 o.ptrs,.int .i64 o.size,.int .i64 o.count,.int .i64 0,.bool false]) ?_ rfl ⟨rfl,((Keep.refl _ _).alloc _).alloc _⟩
 simp [results,Tryz.results274,go_sem]
structure ObOk (o:Ob):Prop where
 k:o.kind=0∨o.kind=1∨o.kind=2∨o.kind=3
 d:0≤o.data∧o.data≤65535
 q:0≤o.ptrs∧o.ptrs≤65535
 s:0≤o.size∧o.size≤7
 c:0≤o.count∧o.count≤536870911
theorem zLI:ObOk ob0:=by constructor <;> simp [ob0]
theorem zoD {o:Ob} (h:ObOk o):PtOk (obP o):=⟨h.k,by simp [obP],h.d,h.q,h.s,h.c,by simp [obP]⟩
def obWords (o:Ob):Int:=if o.kind=3 then 0 else (ptrWords (obP o)).1
theorem zYA (o:Ob) (w:World) (ho:ObOk o):Calls Tryz.prog 264 #[.agg o.cs] w fun e w'=>e=.returned (.int .i64 (obWords o))∧Grow w w':=by
 have hg:=(Keep.refl NoB w).alloc (.cells o.cs 257)
 have hd:=heap_alloc_new w (.cells o.cs 257)
 have Hg:=LH hg
 have HO:=LH ho
 obtain ⟨c0,c1,c2,c3,c4,c5,c6,cf⟩:=zC (show (w.alloc (.cells o.cs 257)).heap[w.heap.size]? = some (.cells #[.int .i64 o.kind,.int .i64 o.seg,.int .i64 o.at_,.int .i64 o.data,.int .i64 o.ptrs,.int .i64 o.size,.int .i64 o.count] 257 (0,0)) from hd)
 simp only [Ob.cs] at c0 c1 c2 c3 c4 c5 c6 cf Hg ⊢
 clear hg hd ho
 by_cases k3:o.kind=3
 ·have E:Hid (obWords o=0):=LH (by simp [obWords,k3])
  have k3b:(o.kind==3)=true:=beq_iff_eq.2 k3
  clear k3
  go_enter Tryz.func264,Tryz.ntmps264
  go_wp2
  go_ret
  exact ⟨by rw [E.out];rfl,Hg.out⟩
 ·have E:Hid (obWords o=(ptrWords (obP o)).1):=LH (by simp [obWords,k3])
  have k3b:(o.kind==3)=false:=beq_eq_false_iff_ne.2 k3
  clear k3
  go_enter Tryz.func264,Tryz.ntmps264
  go_wp2_with fail
  refine (zaE o _).mono ?_
  rintro e w1 ⟨rfl,hg1⟩
  have Hg1:=LH (Hg.out.grow hg1)
  clear hg1
  go_wp2_with fail
  refine (show Calls Tryz.prog 273 #[.agg #[.int .i64 o.kind,.int .i64 0,.int .i64 o.data,.int .i64 o.ptrs,.int .i64 o.size,.int .i64 o.count,.int .i64 0,.bool false]] w1 (WordsPost (obP o) w1) from zfC (obP o) w1 (zoD HO.out)).mono ?_
  rintro e w2 ⟨rfl,hg2⟩
  have Hg2:=LH (Hg1.out.grow hg2)
  clear hg2
  go_wp2
  go_ret
  exact ⟨by rw [E.out];rfl,Hg2.out⟩
def isNear (p:Pt):Bool:=p.kind==1||p.kind==2
theorem zvB (p:Pt) (w:World):Calls Tryz.prog 260 #[.agg p.cs] w fun e w'=>e=.returned (.bool (isNear p))∧Grow w w':=by
 have hd:=heap_alloc_new w (.cells p.cs 120)
 have Hg:=LH ((Keep.refl NoB w).alloc (.cells p.cs 120))
 obtain ⟨c0,c1,c2,c3,c4,c5,c6,c7,cf⟩:=zO (show (w.alloc (.cells p.cs 120)).heap[w.heap.size]? = some (.cells #[.int .i64 p.kind,.int .i64 p.off,.int .i64 p.data,.int .i64 p.ptrs,.int .i64 p.size,.int .i64 p.count,.int .i64 p.seg,.bool p.dbl] 120 (0,0)) from hd)
 simp only [Pt.cs] at c0 c1 c2 c3 c4 c5 c6 c7 cf Hg ⊢
 clear hd
 by_cases k1:p.kind=1
 ·have E:Hid (isNear p=true):=LH (by simp [isNear,k1])
  have k1b:(p.kind==1)=true:=beq_iff_eq.2 k1
  clear k1
  go_enter Tryz.func260,Tryz.ntmps260
  go_wp2
  go_ret
  exact ⟨by rw [E.out];rfl,Hg.out⟩
 ·have E:Hid (isNear p=(p.kind==2)):=LH (by simp [isNear,k1])
  have k1b:(p.kind==1)=false:=beq_eq_false_iff_ne.2 k1
  clear k1
  go_enter Tryz.func260,Tryz.ntmps260
  go_wp2
  go_ret
  exact ⟨by rw [E.out];rfl,Hg.out⟩
structure SouOk (sz:List Int) (wd:Int→Int→Int×Int):Prop where
 sz:∀ x∈sz,0≤x∧x≤100000
 val:∀ seg at_,0≤(wd seg at_).1∧(wd seg at_).1≤18446744073709551615
 inb:∀ seg at_,(wd seg at_).2=0→0≤seg∧0≤at_∧at_≤100000
theorem zu {a:List (List Int)} (h:OkA a):SouOk (szs a) (wordA a):=by
 refine ⟨zJF h,fun seg at_=>?_,fun seg at_ he=>?_⟩
 ·unfold wordA
  split
  ·rename_i hc
   have h1:seg.toNat<a.length:=by omega
   have e1:a.getD seg.toNat []=a[seg.toNat]:=by simp [List.getD_eq_getElem?_getD,List.getElem?_eq_getElem h1]
   rw [e1] at hc ⊢
   have h2:at_.toNat<a[seg.toNat].length:=by omega
   have e2:a[seg.toNat].getD at_.toNat 0=a[seg.toNat][at_.toNat]:=by simp [List.getD_eq_getElem?_getD,List.getElem?_eq_getElem h2]
   rw [e2]
   exact h.nums _ (List.getElem_mem h1) _ (List.getElem_mem h2)
  ·simp
 ·unfold wordA at he
  split at he
  ·rename_i hc
   have h1:seg.toNat<a.length:=by omega
   have e1:a.getD seg.toNat []=a[seg.toNat]:=by simp [List.getD_eq_getElem?_getD,List.getElem?_eq_getElem h1]
   rw [e1] at hc
   have:=h.words _ (List.getElem_mem h1)
   omega
  ·simp at he
def ptrAt (wd:Int→Int→Int×Int) (seg at_:Int):Pt×Int:=if (wd seg at_).2=0 then ptrDec (wd seg at_).1 else (pt0,(wd seg at_).2)
def PAPost (wd:Int→Int→Int×Int) (seg at_:Int) (w:World) (e:Ending) (w':World):Prop:=e=.returned (.tuple #[.agg #[.int .i64 (ptrAt wd seg at_).1.kind,.int .i64 (ptrAt wd seg at_).1.off,.int .i64 (ptrAt wd seg at_).1.data,.int .i64 (ptrAt wd seg at_).1.ptrs,.int .i64 (ptrAt wd seg at_).1.size,.int .i64 (ptrAt wd seg at_).1.count,.int .i64 (ptrAt wd seg at_).1.seg,.bool (ptrAt wd seg at_).1.dbl],.int .u16 (ptrAt wd seg at_).2])∧Grow w w'
theorem zSB {sz:List Int} {wd:Int→Int→Int×Int} (h:SouOk sz wd) (seg at_:Int):PtOk (ptrAt wd seg at_).1:=by
 unfold ptrAt
 split
 ·exact zZB _ (h.val seg at_).1
 ·exact zOF
def obOf (p:Pt) (seg at_:Int):Ob:=⟨p.kind,seg,at_,p.data,p.ptrs,p.size,p.count⟩
theorem zsA {p:Pt} (h:PtOk p) (seg at_:Int):ObOk (obOf p seg at_):=⟨h.k,h.d,h.q,h.s,h.c⟩
def foundP (sz:List Int) (p:Pt) (seg at_:Int):Ob×Int :=
 if (ptrWords (obP (obOf p seg at_))).2=0 then if withinB sz seg at_ (ptrWords (obP (obOf p seg at_))).1 then (obOf p seg at_,0) else (ob0,20) else (ob0,(ptrWords (obP (obOf p seg at_))).2)
def landedP (sz:List Int) (wd:Int→Int→Int×Int) (p:Pt):Ob×Int :=
 if (ptrAt wd p.seg p.off).2=0 then if isNear (ptrAt wd p.seg p.off).1 then foundP sz (ptrAt wd p.seg p.off).1 p.seg (p.off+1+(ptrAt wd p.seg p.off).1.off) else (ob0,23) else (ob0,(ptrAt wd p.seg p.off).2)
def twiceP (sz : List Int) (wd : Int → Int → Int × Int) (p : Pt) : Ob × Int :=
 if (wd p.seg p.off).2 = 0 then
  if (wd p.seg (p.off + 1)).2 = 0 then
   if (ptrDec (wd p.seg p.off).1).2 = 0 then
    if (ptrDec (wd p.seg (p.off+1)).1).2=0 then
     if (ptrDec (wd p.seg p.off).1).1.kind=3∧(ptrDec (wd p.seg p.off).1).1.dbl=false∧isNear (ptrDec (wd p.seg (p.off+1)).1).1=true∧(ptrDec (wd p.seg (p.off+1)).1).1.off=0 then
      foundP sz (ptrDec (wd p.seg (p.off+1)).1).1 (ptrDec (wd p.seg p.off).1).1.seg (ptrDec (wd p.seg p.off).1).1.off
     else (ob0,23)
    else (ob0,(ptrDec (wd p.seg (p.off+1)).1).2)
   else (ob0,(ptrDec (wd p.seg p.off).1).2)
  else (ob0,(wd p.seg (p.off+1)).2)
 else (ob0,(wd p.seg p.off).2)
def followP (sz:List Int) (wd:Int→Int→Int×Int) (seg at_:Int):Ob×Int :=
 if (ptrAt wd seg at_).2=0∧(ptrAt wd seg at_).1.kind≠0 then
  if isNear (ptrAt wd seg at_).1 then foundP sz (ptrAt wd seg at_).1 seg (at_+1+(ptrAt wd seg at_).1.off)
  else if (ptrAt wd seg at_).1.dbl then twiceP sz wd (ptrAt wd seg at_).1
  else landedP sz wd (ptrAt wd seg at_).1
 else (ob0,(ptrAt wd seg at_).2)
def ObPost (r:Ob×Int) (w:World) (e:Ending) (w':World):Prop:=e=.returned (.tuple #[.agg #[.int .i64 r.1.kind,.int .i64 r.1.seg,.int .i64 r.1.at_,.int .i64 r.1.data,.int .i64 r.1.ptrs,.int .i64 r.1.size,.int .i64 r.1.count],.int .u16 r.2])∧Grow w w'
theorem zWC {sv:Value} {sz:List Int} {wd:Int→Int→Int×Int} {w:World} (h:Sou sv sz wd w) (ho:SouOk sz wd) (seg at_:Int):Calls Tryz.prog 259 #[sv,.int .i64 seg,.int .i64 at_] w (PAPost wd seg at_ w):=by
 obtain ⟨T,pv,fw,fs,r,rfl,h2,h3,k1,k2,h4,h5⟩:=h.out
 have HG:=LH ((Keep.refl NoB w).alloc (.cells #[.int .i64 0,.int .i64 0,.int .i64 0,.int .i64 0,.int .i64 0,.int .i64 0,.int .i64 0,.bool false] 120))
 have HB0:=LH (heap_alloc_new w (.cells #[.int .i64 0,.int .i64 0,.int .i64 0,.int .i64 0,.int .i64 0,.int .i64 0,.int .i64 0,.bool false] 120))
 have H4:=LH h4
 have HS:=LH (h.grow HG.out)
 have HV:=LH (ho.val seg at_)
 clear h h3 h4 h5 ho k2
 by_cases he:(wd seg at_).2=0
 ·have eb:((wd seg at_).2 != 0)=false:=by simp [he]
  have E:Hid (ptrAt wd seg at_=ptrDec (wd seg at_).1):=LH (if_pos he)
  clear he
  go_enter Tryz.func259,Tryz.ntmps259
  go_wp2_with fail
  refine (H4.out _ HG.out seg at_).mono ?_
  rintro e w1 ⟨rfl,hg⟩
  replace HB0:=LH (hg.heap HB0.out)
  replace HG:=LH (HG.out.grow hg)
  replace HS:=LH (HS.out.grow hg)
  clear hg
  go_wp2_with fail
  refine (zMC (wd seg at_).1 _ HV.out.1 HV.out.2).mono ?_
  rintro e w2 ⟨rfl,hg⟩
  replace HB0:=LH (hg.heap HB0.out)
  replace HG:=LH (HG.out.grow hg)
  replace HS:=LH (HS.out.grow hg)
  clear hg
  obtain ⟨b0,b1,b2,b3,b4,b5,b6,b7,bf⟩:=zO HB0.out
  have hst:=LH (zIB (.int .i64 (ptrDec (wd seg at_).1).1.kind) (.int .i64 (ptrDec (wd seg at_).1).1.off) (.int .i64 (ptrDec (wd seg at_).1).1.data) (.int .i64 (ptrDec (wd seg at_).1).1.ptrs) (.int .i64 (ptrDec (wd seg at_).1).1.size) (.int .i64 (ptrDec (wd seg at_).1).1.count) (.int .i64 (ptrDec (wd seg at_).1).1.seg) (.bool (ptrDec (wd seg at_).1).1.dbl) HG.out (Nat.le_refl _) HB0.out)
  go_wp2
  (try simp only [Exit.inBlock,Exit.then])
  obtain ⟨r0,r1,r2,r3,r4,r5,r6,r7,rf⟩:=zO hst.out.1
  refine bodyPost_ret (v:=.tuple #[.agg #[.int .i64 (ptrDec (wd seg at_).1).1.kind,.int .i64 (ptrDec (wd seg at_).1).1.off,.int .i64 (ptrDec (wd seg at_).1).1.data,.int .i64 (ptrDec (wd seg at_).1).1.ptrs,.int .i64 (ptrDec (wd seg at_).1).1.size,.int .i64 (ptrDec (wd seg at_).1).1.count,.int .i64 (ptrDec (wd seg at_).1).1.seg,.bool (ptrDec (wd seg at_).1).1.dbl],.int .u16 (ptrDec (wd seg at_).1).2]) ?_ rfl ⟨?_,hst.out.2⟩
  ·rw [results_cell_tmp rfl];go_simp
  ·rw [E.out] <;> rfl
 ·have eb:((wd seg at_).2 != 0)=true:=by simp [he]
  have E:Hid (ptrAt wd seg at_=(pt0,(wd seg at_).2)):=LH (if_neg he)
  clear he
  go_enter Tryz.func259,Tryz.ntmps259
  go_wp2_with fail
  refine (H4.out _ HG.out seg at_).mono ?_
  rintro e w1 ⟨rfl,hg⟩
  replace HB0:=LH (hg.heap HB0.out)
  replace HG:=LH (HG.out.grow hg)
  replace HS:=LH (HS.out.grow hg)
  clear hg
  obtain ⟨b0,b1,b2,b3,b4,b5,b6,b7,bf⟩:=zO HB0.out
  have hst:=LH (zIB (.int .i64 0) (.int .i64 0) (.int .i64 0) (.int .i64 0) (.int .i64 0) (.int .i64 0) (.int .i64 0) (.bool false) HG.out (Nat.le_refl _) HB0.out)
  go_wp2
  (try simp only [Exit.inBlock,Exit.then])
  obtain ⟨r0,r1,r2,r3,r4,r5,r6,r7,rf⟩:=zO hst.out.1
  refine bodyPost_ret (v:=.tuple #[.agg #[.int .i64 0,.int .i64 0,.int .i64 0,.int .i64 0,.int .i64 0,.int .i64 0,.int .i64 0,.bool false],.int .u16 (wd seg at_).2]) ?_ rfl ⟨?_,hst.out.2⟩
  ·rw [results_cell_tmp rfl];go_simp
  ·rw [E.out] <;> rfl
theorem zUH (w:World) (o1 o2 o3:Obj):(((w.alloc o1).alloc o2).alloc o3).heap[w.heap.size]? = some o1∧(((w.alloc o1).alloc o2).alloc o3).heap[w.heap.size+1]? = some o2∧(((w.alloc o1).alloc o2).alloc o3).heap[w.heap.size+2]? = some o3∧Grow w (((w.alloc o1).alloc o2).alloc o3):=by
 obtain ⟨h1,h2,h3⟩:=zU w o1 o2
 have hg:=(Keep.refl NoB ((w.alloc o1).alloc o2)).alloc o3
 have h4:=heap_alloc_new ((w.alloc o1).alloc o2) o3
 exact ⟨Grow.heap hg h1,Grow.heap hg h2,by simpa using h4,h3.grow hg⟩
theorem zwB {sv:Value} {sz:List Int} {wd:Int→Int→Int×Int} {w:World} (h:Sou sv sz wd w) (ho:SouOk sz wd) (p:Pt) (hp:PtOk p) (seg at_:Int) (hat : -9223372036854775808≤at_):Calls Tryz.prog 261 #[sv,.agg #[.int .i64 p.kind,.int .i64 p.off,.int .i64 p.data,.int .i64 p.ptrs,.int .i64 p.size,.int .i64 p.count,.int .i64 p.seg,.bool p.dbl],.int .i64 seg,.int .i64 at_] w (ObPost (foundP sz p seg at_) w):=by
 obtain ⟨T,pv,fw,fs,r,rfl,h2,h3,k1,k2,h4,h5⟩:=h.out
 obtain ⟨hP,hB0,hO,hG⟩:=zUH w (.cells #[.int .i64 p.kind,.int .i64 p.off,.int .i64 p.data,.int .i64 p.ptrs,.int .i64 p.size,.int .i64 p.count,.int .i64 p.seg,.bool p.dbl] 120) (.cells #[.int .i64 0,.int .i64 0,.int .i64 0,.int .i64 0,.int .i64 0,.int .i64 0,.int .i64 0] 257) (.cells #[.int .i64 p.kind,.int .i64 seg,.int .i64 at_,.int .i64 p.data,.int .i64 p.ptrs,.int .i64 p.size,.int .i64 p.count] 257)
 have HB0:=LH hB0
 have HO:=LH hO
 have HP:=LH hP
 have HG:=LH hG
 have H5:=LH h5
 have HS:=LH (h.grow HG.out)
 have HZ:=LH ho.sz
 have HOK:=LH (zoD (zsA hp seg at_))
 obtain ⟨a0,a1,a2,a3,a4,a5,a6,a7,af⟩:=zO hP
 obtain ⟨o0,o1,o2,o3,o4,o5,o6,of⟩:=zC hO
 clear h h2 h4 h5 ho k1 hP hB0 hO hG hp
 go_enter Tryz.func261,Tryz.ntmps261
 go_wp2_with fail
 refine (zaE (obOf p seg at_) _).mono ?_
 rintro e w1 ⟨rfl,hg⟩
 replace HB0:=LH (hg.heap HB0.out)
 replace HO:=LH (hg.heap HO.out)
 replace HG:=LH (HG.out.grow hg)
 replace HS:=LH (HS.out.grow hg)
 clear hg
 go_wp2_with fail
 refine (zfC (obP (obOf p seg at_)) _ HOK.out).mono ?_
 rintro e w2 ⟨rfl,hg⟩
 replace HB0:=LH (hg.heap HB0.out)
 replace HO:=LH (hg.heap HO.out)
 replace HG:=LH (HG.out.grow hg)
 replace HS:=LH (HS.out.grow hg)
 clear hg
 clear a0 a1 a2 a3 a4 a5 a6 a7 af o0 o1 o2 o3 o4 o5 o6 of
 by_cases he:(ptrWords (obP (obOf p seg at_))).2=0
 ·have eb:((ptrWords (obP (obOf p seg at_))).2 != 0)=false:=by simp [he]
  have He:=LH he
  clear he
  go_wp2_with fail
  refine (H5.out _ HG.out).mono ?_
  rintro e w3 ⟨A1,c1,rfl,hg,hs⟩
  replace HB0:=LH (hg.heap HB0.out)
  replace HO:=LH (hg.heap HO.out)
  replace HG:=LH (HG.out.grow hg)
  replace HS:=LH (HS.out.grow hg)
  clear hg
  have Hs:=LH hs
  clear hs
  go_wp2_with fail
  refine (zKF A1 c1 sz _ Hs.out HZ.out seg at_ (ptrWords (obP (obOf p seg at_))).1 hat).mono ?_
  rintro e w' ⟨rfl,rfl⟩
  cases hw:withinB sz seg at_ (ptrWords (obP (obOf p seg at_))).1 with
  | false =>
   have E:Hid (foundP sz p seg at_=(ob0,20)):=LH (by unfold foundP;rw [if_pos He.out,if_neg (by simp [hw])])
   clear hw
   obtain ⟨b0,b1,b2,b3,b4,b5,b6,bf⟩:=zC HB0.out
   have hst:=LH (zh (.int .i64 0) (.int .i64 0) (.int .i64 0) (.int .i64 0) (.int .i64 0) (.int .i64 0) (.int .i64 0) HG.out (by omega) HB0.out)
   go_wp2
   (try simp only [Exit.inBlock,Exit.then])
   obtain ⟨r0,r1,r2,r3,r4,r5,r6,rf⟩:=zC hst.out.1
   refine bodyPost_ret (v:=.tuple #[.agg #[.int .i64 0,.int .i64 0,.int .i64 0,.int .i64 0,.int .i64 0,.int .i64 0,.int .i64 0],.int .u16 20]) ?_ rfl ⟨?_,hst.out.2⟩
   ·rw [results_cell_tmp rfl];go_simp
   ·rw [E.out] <;> rfl
  | true =>
   have E:Hid (foundP sz p seg at_=(obOf p seg at_,0)):=LH (by unfold foundP;rw [if_pos He.out,if_pos hw])
   clear hw
   obtain ⟨o0,o1,o2,o3,o4,o5,o6,of⟩:=zC HO.out
   obtain ⟨b0,b1,b2,b3,b4,b5,b6,bf⟩:=zC HB0.out
   have hst:=LH (zh (.int .i64 p.kind) (.int .i64 seg) (.int .i64 at_) (.int .i64 p.data) (.int .i64 p.ptrs) (.int .i64 p.size) (.int .i64 p.count) HG.out (by omega) HB0.out)
   go_wp2
   (try simp only [Exit.inBlock,Exit.then])
   obtain ⟨r0,r1,r2,r3,r4,r5,r6,rf⟩:=zC hst.out.1
   refine bodyPost_ret (v:=.tuple #[.agg #[.int .i64 p.kind,.int .i64 seg,.int .i64 at_,.int .i64 p.data,.int .i64 p.ptrs,.int .i64 p.size,.int .i64 p.count],.int .u16 0]) ?_ rfl ⟨?_,hst.out.2⟩
   ·rw [results_cell_tmp rfl];go_simp
   ·rw [E.out] <;> rfl
 ·have eb:((ptrWords (obP (obOf p seg at_))).2 != 0)=true:=by simp [he]
  have E:Hid (foundP sz p seg at_=(ob0,(ptrWords (obP (obOf p seg at_))).2)):=LH (by unfold foundP;rw [if_neg he])
  clear he
  obtain ⟨b0,b1,b2,b3,b4,b5,b6,bf⟩:=zC HB0.out
  have hst:=LH (zh (.int .i64 0) (.int .i64 0) (.int .i64 0) (.int .i64 0) (.int .i64 0) (.int .i64 0) (.int .i64 0) HG.out (by omega) HB0.out)
  go_wp2
  (try simp only [Exit.inBlock,Exit.then])
  obtain ⟨r0,r1,r2,r3,r4,r5,r6,rf⟩:=zC hst.out.1
  refine bodyPost_ret (v:=.tuple #[.agg #[.int .i64 0,.int .i64 0,.int .i64 0,.int .i64 0,.int .i64 0,.int .i64 0,.int .i64 0],.int .u16 (ptrWords (obP (obOf p seg at_))).2]) ?_ rfl ⟨?_,hst.out.2⟩
  ·rw [results_cell_tmp rfl];go_simp
  ·rw [E.out] <;> rfl
theorem zPF {sv:Value} {sz:List Int} {wd:Int→Int→Int×Int} {w:World} (h:Sou sv sz wd w) (ho:SouOk sz wd) (p:Pt) (hp:PtOk p):Calls Tryz.prog 263 #[sv,.agg #[.int .i64 p.kind,.int .i64 p.off,.int .i64 p.data,.int .i64 p.ptrs,.int .i64 p.size,.int .i64 p.count,.int .i64 p.seg,.bool p.dbl]] w (ObPost (landedP sz wd p) w):=by
 obtain ⟨T,pv,fw,fs,r,rfl,-⟩:=h.out
 obtain ⟨hP,hB0,hG⟩:=zU w (.cells #[.int .i64 p.kind,.int .i64 p.off,.int .i64 p.data,.int .i64 p.ptrs,.int .i64 p.size,.int .i64 p.count,.int .i64 p.seg,.bool p.dbl] 120) (.cells #[.int .i64 0,.int .i64 0,.int .i64 0,.int .i64 0,.int .i64 0,.int .i64 0,.int .i64 0] 257)
 have HB0:=LH hB0
 have HP:=LH hP
 have HG:=LH hG
 have HS:=LH (h.grow HG.out)
 have HSO:=LH ho
 have HQ:=LH (zSB ho p.seg p.off)
 obtain ⟨a0,a1,a2,a3,a4,a5,a6,a7,af⟩:=zO hP
 have po1:=hp.o.1
 have po2:=hp.o.2
 clear h ho hP hB0 hG hp
 go_enter Tryz.func263,Tryz.ntmps263
 go_wp2_with fail
 refine (zWC HS.out HSO.out p.seg p.off).mono ?_
 rintro e w1 ⟨rfl,hg⟩
 replace HB0:=LH (hg.heap HB0.out)
 replace HP:=LH (hg.heap HP.out)
 replace HG:=LH (HG.out.grow hg)
 replace HS:=LH (HS.out.grow hg)
 clear hg
 clear a0 a1 a2 a3 a4 a5 a6 a7 af
 have E0:Hid (landedP sz wd p=if (ptrAt wd p.seg p.off).2=0 then if isNear (ptrAt wd p.seg p.off).1 then foundP sz (ptrAt wd p.seg p.off).1 p.seg (p.off+1+(ptrAt wd p.seg p.off).1.off) else (ob0,23) else (ob0,(ptrAt wd p.seg p.off).2)):=LH rfl
 generalize (ptrAt wd p.seg p.off).1=q at *
 generalize (ptrAt wd p.seg p.off).2=qe at *
 have hgq:=(Keep.refl NoB w1).alloc (.cells #[.int .i64 q.kind,.int .i64 q.off,.int .i64 q.data,.int .i64 q.ptrs,.int .i64 q.size,.int .i64 q.count,.int .i64 q.seg,.bool q.dbl] 120)
 have hQ:=heap_alloc_new w1 (.cells #[.int .i64 q.kind,.int .i64 q.off,.int .i64 q.data,.int .i64 q.ptrs,.int .i64 q.size,.int .i64 q.count,.int .i64 q.seg,.bool q.dbl] 120)
 replace HB0:=LH (Grow.heap hgq HB0.out)
 replace HP:=LH (Grow.heap hgq HP.out)
 replace HG:=LH (HG.out.grow hgq)
 replace HS:=LH (HS.out.grow hgq)
 have HQC:=LH hQ
 obtain ⟨q0,q1,q2,q3,q4,q5,q6,q7,qf⟩:=zO hQ
 clear hgq hQ
 by_cases he:qe=0
 ·subst he
  go_wp2_with fail
  refine (zvB q _).mono ?_
  rintro e w2 ⟨rfl,hg⟩
  replace HB0:=LH (hg.heap HB0.out)
  replace HP:=LH (hg.heap HP.out)
  replace HQC:=LH (hg.heap HQC.out)
  replace HG:=LH (HG.out.grow hg)
  replace HS:=LH (HS.out.grow hg)
  clear hg
  clear q0 q1 q2 q3 q4 q5 q6 q7 qf
  cases hn:isNear q with
  | false =>
   have E:Hid (landedP sz wd p=(ob0,23)):=LH (by rw [E0.out];simp [hn])
   clear hn
   obtain ⟨b0,b1,b2,b3,b4,b5,b6,bf⟩:=zC HB0.out
   have hst:=LH (zh (.int .i64 0) (.int .i64 0) (.int .i64 0) (.int .i64 0) (.int .i64 0) (.int .i64 0) (.int .i64 0) HG.out (by omega) HB0.out)
   go_wp2
   (try simp only [Exit.inBlock,Exit.then])
   obtain ⟨r0,r1,r2,r3,r4,r5,r6,rf⟩:=zC hst.out.1
   refine bodyPost_ret (v:=.tuple #[.agg #[.int .i64 0,.int .i64 0,.int .i64 0,.int .i64 0,.int .i64 0,.int .i64 0,.int .i64 0],.int .u16 23]) ?_ rfl ⟨?_,hst.out.2⟩
   ·rw [results_cell_tmp rfl];go_simp
   ·rw [E.out] <;> rfl
  | true =>
   have E:Hid (landedP sz wd p=foundP sz q p.seg (p.off+1+q.off)):=LH (by rw [E0.out];simp [hn])
   clear hn
   obtain ⟨q0,q1,q2,q3,q4,q5,q6,q7,qf⟩:=zO HQC.out
   obtain ⟨a0,a1,a2,a3,a4,a5,a6,a7,af⟩:=zO HP.out
   have qo1:=HQ.out.o.1
   have qo2:=HQ.out.o.2
   go_wp2_with fail
   refine (zwB HS.out HSO.out q HQ.out p.seg (p.off+1+q.off) (by omega)).mono ?_
   rintro e w3 ⟨rfl,hg⟩
   replace HB0:=LH (hg.heap HB0.out)
   replace HG:=LH (HG.out.grow hg)
   replace HS:=LH (HS.out.grow hg)
   clear hg
   obtain ⟨b0,b1,b2,b3,b4,b5,b6,bf⟩:=zC HB0.out
   have hst:=LH (zh (.int .i64 (foundP sz q p.seg (p.off+1+q.off)).1.kind) (.int .i64 (foundP sz q p.seg (p.off+1+q.off)).1.seg) (.int .i64 (foundP sz q p.seg (p.off+1+q.off)).1.at_) (.int .i64 (foundP sz q p.seg (p.off+1+q.off)).1.data) (.int .i64 (foundP sz q p.seg (p.off+1+q.off)).1.ptrs) (.int .i64 (foundP sz q p.seg (p.off+1+q.off)).1.size) (.int .i64 (foundP sz q p.seg (p.off+1+q.off)).1.count) HG.out (by omega) HB0.out)
   go_wp2
   (try simp only [Exit.inBlock,Exit.then])
   obtain ⟨r0,r1,r2,r3,r4,r5,r6,rf⟩:=zC hst.out.1
   refine bodyPost_ret (v:=.tuple #[.agg #[.int .i64 (foundP sz q p.seg (p.off+1+q.off)).1.kind,.int .i64 (foundP sz q p.seg (p.off+1+q.off)).1.seg,.int .i64 (foundP sz q p.seg (p.off+1+q.off)).1.at_,.int .i64 (foundP sz q p.seg (p.off+1+q.off)).1.data,.int .i64 (foundP sz q p.seg (p.off+1+q.off)).1.ptrs,.int .i64 (foundP sz q p.seg (p.off+1+q.off)).1.size,.int .i64 (foundP sz q p.seg (p.off+1+q.off)).1.count],.int .u16 (foundP sz q p.seg (p.off+1+q.off)).2]) ?_ rfl ⟨?_,hst.out.2⟩
   ·rw [results_cell_tmp rfl];go_simp
   ·rw [E.out] <;> rfl
 ·have eb:(qe != 0)=true:=by simp [he]
  have E:Hid (landedP sz wd p=(ob0,qe)):=LH (by rw [E0.out,if_neg he])
  clear he
  obtain ⟨b0,b1,b2,b3,b4,b5,b6,bf⟩:=zC HB0.out
  have hst:=LH (zh (.int .i64 0) (.int .i64 0) (.int .i64 0) (.int .i64 0) (.int .i64 0) (.int .i64 0) (.int .i64 0) HG.out (by omega) HB0.out)
  go_wp2
  (try simp only [Exit.inBlock,Exit.then])
  obtain ⟨r0,r1,r2,r3,r4,r5,r6,rf⟩:=zC hst.out.1
  refine bodyPost_ret (v:=.tuple #[.agg #[.int .i64 0,.int .i64 0,.int .i64 0,.int .i64 0,.int .i64 0,.int .i64 0,.int .i64 0],.int .u16 qe]) ?_ rfl ⟨?_,hst.out.2⟩
  ·rw [results_cell_tmp rfl];go_simp
  ·rw [E.out] <;> rfl
theorem zWG {sv:Value} {sz:List Int} {wd:Int→Int→Int×Int} {w:World} (h:Sou sv sz wd w) (ho:SouOk sz wd) (p:Pt) (hp:PtOk p):Calls Tryz.prog 262 #[sv,.agg #[.int .i64 p.kind,.int .i64 p.off,.int .i64 p.data,.int .i64 p.ptrs,.int .i64 p.size,.int .i64 p.count,.int .i64 p.seg,.bool p.dbl]] w (ObPost (twiceP sz wd p) w):=by
 obtain ⟨T,pv,fw,fs,r,rfl,h2,h3,k1,k2,h4,h5⟩:=h.out
 obtain ⟨hP,hB0,hG⟩:=zU w (.cells #[.int .i64 p.kind,.int .i64 p.off,.int .i64 p.data,.int .i64 p.ptrs,.int .i64 p.size,.int .i64 p.count,.int .i64 p.seg,.bool p.dbl] 120) (.cells #[.int .i64 0,.int .i64 0,.int .i64 0,.int .i64 0,.int .i64 0,.int .i64 0,.int .i64 0] 257)
 have HB0:=LH hB0
 have HP:=LH hP
 have HG:=LH hG
 have H4:=LH h4
 have HS:=LH (h.grow HG.out)
 have HSO:=LH ho
 have HV1:=LH (ho.val p.seg p.off)
 have HV2:=LH (ho.val p.seg (p.off+1))
 have E0:Hid (twiceP sz wd p=(  if (wd p.seg p.off).2=0 then     if (wd p.seg (p.off+1)).2=0 then       if (ptrDec (wd p.seg p.off).1).2=0 then         if (ptrDec (wd p.seg (p.off+1)).1).2=0 then           if (ptrDec (wd p.seg p.off).1).1.kind=3∧(ptrDec (wd p.seg p.off).1).1.dbl=false∧isNear (ptrDec (wd p.seg (p.off+1)).1).1=true∧(ptrDec (wd p.seg (p.off+1)).1).1.off=0 then             foundP sz (ptrDec (wd p.seg (p.off+1)).1).1 (ptrDec (wd p.seg p.off).1).1.seg (ptrDec (wd p.seg p.off).1).1.off           else (ob0,23)         else (ob0,(ptrDec (wd p.seg (p.off+1)).1).2)       else (ob0,(ptrDec (wd p.seg p.off).1).2)     else (ob0,(wd p.seg (p.off+1)).2)   else (ob0,(wd p.seg p.off).2) )):=LH rfl
 obtain ⟨a0,a1,a2,a3,a4,a5,a6,a7,af⟩:=zO hP
 have po1:=hp.o.1
 have po2:=hp.o.2
 clear h ho hP hB0 hG hp h3 h4 h5 k2
 go_enter Tryz.func262,Tryz.ntmps262
 go_wp2_with fail
 refine (H4.out _ HG.out p.seg p.off).mono ?_
 rintro e w1 ⟨rfl,hg⟩
 replace HB0:=LH (hg.heap HB0.out)
 replace HP:=LH (hg.heap HP.out)
 replace HG:=LH (HG.out.grow hg)
 replace HS:=LH (HS.out.grow hg)
 clear hg
 clear a0 a1 a2 a3 a4 a5 a6 a7 af
 generalize wd p.seg p.off=x1 at *
 obtain ⟨x1,y1⟩:=x1
 by_cases he:y1=0
 case neg =>
  have eb:(y1 != 0)=true:=by simp [he]
  have E:Hid (twiceP sz wd p=(ob0,y1)):=LH (by rw [E0.out];simp [he])
  clear he
  obtain ⟨b0,b1,b2,b3,b4,b5,b6,bf⟩:=zC HB0.out
  have hst:=LH (zh (.int .i64 0) (.int .i64 0) (.int .i64 0) (.int .i64 0) (.int .i64 0) (.int .i64 0) (.int .i64 0) HG.out (by omega) HB0.out)
  go_wp2
  (try simp only [Exit.inBlock,Exit.then])
  obtain ⟨r0,r1,r2,r3,r4,r5,r6,rf⟩:=zC hst.out.1
  refine bodyPost_ret (v:=.tuple #[.agg #[.int .i64 0,.int .i64 0,.int .i64 0,.int .i64 0,.int .i64 0,.int .i64 0,.int .i64 0],.int .u16 y1]) ?_ rfl ⟨?_,hst.out.2⟩
  ·rw [results_cell_tmp rfl];go_simp
  ·rw [E.out] <;> rfl
 subst he
 obtain ⟨a0,a1,a2,a3,a4,a5,a6,a7,af⟩:=zO HP.out
 go_wp2_with fail
 refine (H4.out _ HG.out p.seg (p.off+1)).mono ?_
 rintro e w2 ⟨rfl,hg⟩
 replace HB0:=LH (hg.heap HB0.out)
 replace HP:=LH (hg.heap HP.out)
 replace HG:=LH (HG.out.grow hg)
 replace HS:=LH (HS.out.grow hg)
 clear hg
 clear a0 a1 a2 a3 a4 a5 a6 a7 af
 generalize wd p.seg (p.off+1)=x2 at *
 obtain ⟨x2,y2⟩:=x2
 by_cases he:y2=0
 case neg =>
  have eb:(y2 != 0)=true:=by simp [he]
  have E:Hid (twiceP sz wd p=(ob0,y2)):=LH (by rw [E0.out];simp [he])
  clear he
  obtain ⟨b0,b1,b2,b3,b4,b5,b6,bf⟩:=zC HB0.out
  have hst:=LH (zh (.int .i64 0) (.int .i64 0) (.int .i64 0) (.int .i64 0) (.int .i64 0) (.int .i64 0) (.int .i64 0) HG.out (by omega) HB0.out)
  go_wp2
  (try simp only [Exit.inBlock,Exit.then])
  obtain ⟨r0,r1,r2,r3,r4,r5,r6,rf⟩:=zC hst.out.1
  refine bodyPost_ret (v:=.tuple #[.agg #[.int .i64 0,.int .i64 0,.int .i64 0,.int .i64 0,.int .i64 0,.int .i64 0,.int .i64 0],.int .u16 y2]) ?_ rfl ⟨?_,hst.out.2⟩
  ·rw [results_cell_tmp rfl];go_simp
  ·rw [E.out] <;> rfl
 subst he
 go_wp2_with fail
 refine (zMC x1 _ HV1.out.1 HV1.out.2).mono ?_
 rintro e w3 ⟨rfl,hg⟩
 replace HB0:=LH (hg.heap HB0.out)
 replace HP:=LH (hg.heap HP.out)
 replace HG:=LH (HG.out.grow hg)
 replace HS:=LH (HS.out.grow hg)
 clear hg
 have HQ1:=LH (zZB x1 HV1.out.1)
 generalize (ptrDec x1).1=q at *
 generalize (ptrDec x1).2=y3 at *
 have hgq:=(Keep.refl NoB w3).alloc (.cells #[.int .i64 q.kind,.int .i64 q.off,.int .i64 q.data,.int .i64 q.ptrs,.int .i64 q.size,.int .i64 q.count,.int .i64 q.seg,.bool q.dbl] 120)
 have hQq:=heap_alloc_new w3 (.cells #[.int .i64 q.kind,.int .i64 q.off,.int .i64 q.data,.int .i64 q.ptrs,.int .i64 q.size,.int .i64 q.count,.int .i64 q.seg,.bool q.dbl] 120)
 replace HB0:=LH (Grow.heap hgq HB0.out)
 replace HP:=LH (Grow.heap hgq HP.out)
 replace HG:=LH (HG.out.grow hgq)
 replace HS:=LH (HS.out.grow hgq)
 have HQC:=LH hQq
 clear hgq hQq
 by_cases he:y3=0
 case neg =>
  have eb:(y3 != 0)=true:=by simp [he]
  have E:Hid (twiceP sz wd p=(ob0,y3)):=LH (by rw [E0.out];simp [he])
  clear he
  obtain ⟨b0,b1,b2,b3,b4,b5,b6,bf⟩:=zC HB0.out
  have hst:=LH (zh (.int .i64 0) (.int .i64 0) (.int .i64 0) (.int .i64 0) (.int .i64 0) (.int .i64 0) (.int .i64 0) HG.out (by omega) HB0.out)
  go_wp2
  (try simp only [Exit.inBlock,Exit.then])
  obtain ⟨r0,r1,r2,r3,r4,r5,r6,rf⟩:=zC hst.out.1
  refine bodyPost_ret (v:=.tuple #[.agg #[.int .i64 0,.int .i64 0,.int .i64 0,.int .i64 0,.int .i64 0,.int .i64 0,.int .i64 0],.int .u16 y3]) ?_ rfl ⟨?_,hst.out.2⟩
  ·rw [results_cell_tmp rfl];go_simp
  ·rw [E.out] <;> rfl
 subst he
 go_wp2_with fail
 refine (zMC x2 _ HV2.out.1 HV2.out.2).mono ?_
 rintro e w4 ⟨rfl,hg⟩
 replace HB0:=LH (hg.heap HB0.out)
 replace HP:=LH (hg.heap HP.out)
 replace HQC:=LH (hg.heap HQC.out)
 replace HG:=LH (HG.out.grow hg)
 replace HS:=LH (HS.out.grow hg)
 clear hg
 have HQ2:=LH (zZB x2 HV2.out.1)
 generalize (ptrDec x2).1=s at *
 generalize (ptrDec x2).2=y4 at *
 have hgs:=(Keep.refl NoB w4).alloc (.cells #[.int .i64 s.kind,.int .i64 s.off,.int .i64 s.data,.int .i64 s.ptrs,.int .i64 s.size,.int .i64 s.count,.int .i64 s.seg,.bool s.dbl] 120)
 have hQs:=heap_alloc_new w4 (.cells #[.int .i64 s.kind,.int .i64 s.off,.int .i64 s.data,.int .i64 s.ptrs,.int .i64 s.size,.int .i64 s.count,.int .i64 s.seg,.bool s.dbl] 120)
 replace HB0:=LH (Grow.heap hgs HB0.out)
 replace HP:=LH (Grow.heap hgs HP.out)
 replace HG:=LH (HG.out.grow hgs)
 replace HS:=LH (HS.out.grow hgs)
 have HQD:=LH hQs
 replace HQC:=LH (Grow.heap hgs HQC.out)
 clear hgs hQs
 by_cases he:y4=0
 case neg =>
  have eb:(y4 != 0)=true:=by simp [he]
  have E:Hid (twiceP sz wd p=(ob0,y4)):=LH (by rw [E0.out];simp [he])
  clear he
  obtain ⟨b0,b1,b2,b3,b4,b5,b6,bf⟩:=zC HB0.out
  have hst:=LH (zh (.int .i64 0) (.int .i64 0) (.int .i64 0) (.int .i64 0) (.int .i64 0) (.int .i64 0) (.int .i64 0) HG.out (by omega) HB0.out)
  go_wp2
  (try simp only [Exit.inBlock,Exit.then])
  obtain ⟨r0,r1,r2,r3,r4,r5,r6,rf⟩:=zC hst.out.1
  refine bodyPost_ret (v:=.tuple #[.agg #[.int .i64 0,.int .i64 0,.int .i64 0,.int .i64 0,.int .i64 0,.int .i64 0,.int .i64 0],.int .u16 y4]) ?_ rfl ⟨?_,hst.out.2⟩
  ·rw [results_cell_tmp rfl];go_simp
  ·rw [E.out] <;> rfl
 subst he
 have E1:Hid (twiceP sz wd p=if q.kind=3∧q.dbl=false∧isNear s=true∧s.off=0 then foundP sz s q.seg q.off else (ob0,23)):=LH (by rw [E0.out];simp)
 obtain ⟨q0,q1,q2,q3,q4,q5,q6,q7,qf⟩:=zO HQC.out
 obtain ⟨s0,s1,s2,s3,s4,s5,s6,s7,sf⟩:=zO HQD.out
 by_cases hk:q.kind=3
 case neg =>
  have eb:(q.kind != 3)=true:=by simp [hk]
  have E:Hid (twiceP sz wd p=(ob0,23)):=LH (by rw [E1.out,if_neg (fun h=>hk h.1)])
  clear hk
  obtain ⟨b0,b1,b2,b3,b4,b5,b6,bf⟩:=zC HB0.out
  have hst:=LH (zh (.int .i64 0) (.int .i64 0) (.int .i64 0) (.int .i64 0) (.int .i64 0) (.int .i64 0) (.int .i64 0) HG.out (by omega) HB0.out)
  go_wp2
  (try simp only [Exit.inBlock,Exit.then])
  obtain ⟨r0,r1,r2,r3,r4,r5,r6,rf⟩:=zC hst.out.1
  refine bodyPost_ret (v:=.tuple #[.agg #[.int .i64 0,.int .i64 0,.int .i64 0,.int .i64 0,.int .i64 0,.int .i64 0,.int .i64 0],.int .u16 23]) ?_ rfl ⟨?_,hst.out.2⟩
  ·rw [results_cell_tmp rfl];go_simp
  ·rw [E.out] <;> rfl
 have ek:(q.kind != 3)=false:=by simp [hk]
 cases hb:q.dbl with
 | true =>
  have E:Hid (twiceP sz wd p=(ob0,23)):=LH (by rw [E1.out,if_neg (fun h=>by rw [hb] at h;cases h.2.1)])
  clear hk
  obtain ⟨b0,b1,b2,b3,b4,b5,b6,bf⟩:=zC HB0.out
  have hst:=LH (zh (.int .i64 0) (.int .i64 0) (.int .i64 0) (.int .i64 0) (.int .i64 0) (.int .i64 0) (.int .i64 0) HG.out (by omega) HB0.out)
  go_wp2
  (try simp only [Exit.inBlock,Exit.then])
  obtain ⟨r0,r1,r2,r3,r4,r5,r6,rf⟩:=zC hst.out.1
  refine bodyPost_ret (v:=.tuple #[.agg #[.int .i64 0,.int .i64 0,.int .i64 0,.int .i64 0,.int .i64 0,.int .i64 0,.int .i64 0],.int .u16 23]) ?_ rfl ⟨?_,hst.out.2⟩
  ·rw [results_cell_tmp rfl];go_simp
  ·rw [E.out] <;> rfl
 | false =>
  go_wp2_with fail
  refine (zvB s _).mono ?_
  rintro e w5 ⟨rfl,hg⟩
  replace HB0:=LH (hg.heap HB0.out)
  replace HP:=LH (hg.heap HP.out)
  replace HQC:=LH (hg.heap HQC.out)
  replace HQD:=LH (hg.heap HQD.out)
  replace HG:=LH (HG.out.grow hg)
  replace HS:=LH (HS.out.grow hg)
  clear hg
  clear s0 s1 s2 s3 s4 s5 s6 s7 sf q0 q1 q2 q3 q4 q5 q6 q7 qf
  obtain ⟨q0,q1,q2,q3,q4,q5,q6,q7,qf⟩:=zO HQC.out
  obtain ⟨s0,s1,s2,s3,s4,s5,s6,s7,sf⟩:=zO HQD.out
  cases hn:isNear s with
  | false =>
   have E:Hid (twiceP sz wd p=(ob0,23)):=LH (by rw [E1.out,if_neg (fun h=>by rw [hn] at h;cases h.2.2.1)])
   clear hn hk
   obtain ⟨b0,b1,b2,b3,b4,b5,b6,bf⟩:=zC HB0.out
   have hst:=LH (zh (.int .i64 0) (.int .i64 0) (.int .i64 0) (.int .i64 0) (.int .i64 0) (.int .i64 0) (.int .i64 0) HG.out (by omega) HB0.out)
   go_wp2
   (try simp only [Exit.inBlock,Exit.then])
   obtain ⟨r0,r1,r2,r3,r4,r5,r6,rf⟩:=zC hst.out.1
   refine bodyPost_ret (v:=.tuple #[.agg #[.int .i64 0,.int .i64 0,.int .i64 0,.int .i64 0,.int .i64 0,.int .i64 0,.int .i64 0],.int .u16 23]) ?_ rfl ⟨?_,hst.out.2⟩
   ·rw [results_cell_tmp rfl];go_simp
   ·rw [E.out] <;> rfl
  | true =>
   by_cases hf:s.off=0
   case neg =>
    have eb:(s.off != 0)=true:=by simp [hf]
    have E:Hid (twiceP sz wd p=(ob0,23)):=LH (by rw [E1.out,if_neg (fun h=>hf h.2.2.2)])
    clear hn hk hf
    obtain ⟨b0,b1,b2,b3,b4,b5,b6,bf⟩:=zC HB0.out
    have hst:=LH (zh (.int .i64 0) (.int .i64 0) (.int .i64 0) (.int .i64 0) (.int .i64 0) (.int .i64 0) (.int .i64 0) HG.out (by omega) HB0.out)
    go_wp2
    (try simp only [Exit.inBlock,Exit.then])
    obtain ⟨r0,r1,r2,r3,r4,r5,r6,rf⟩:=zC hst.out.1
    refine bodyPost_ret (v:=.tuple #[.agg #[.int .i64 0,.int .i64 0,.int .i64 0,.int .i64 0,.int .i64 0,.int .i64 0,.int .i64 0],.int .u16 23]) ?_ rfl ⟨?_,hst.out.2⟩
    ·rw [results_cell_tmp rfl];go_simp
    ·rw [E.out] <;> rfl
   have eb:(s.off != 0)=false:=by simp [hf]
   have E:Hid (twiceP sz wd p=foundP sz s q.seg q.off):=LH (by rw [E1.out,if_pos ⟨hk,hb,hn,hf⟩])
   have qo1:=HQ1.out.o.1
   clear hn hk hf
   go_wp2_with fail
   refine (zwB HS.out HSO.out s HQ2.out q.seg q.off (by omega)).mono ?_
   rintro e w6 ⟨rfl,hg⟩
   replace HB0:=LH (hg.heap HB0.out)
   replace HG:=LH (HG.out.grow hg)
   replace HS:=LH (HS.out.grow hg)
   clear hg
   obtain ⟨b0,b1,b2,b3,b4,b5,b6,bf⟩:=zC HB0.out
   have hst:=LH (zh (.int .i64 (foundP sz s q.seg q.off).1.kind) (.int .i64 (foundP sz s q.seg q.off).1.seg) (.int .i64 (foundP sz s q.seg q.off).1.at_) (.int .i64 (foundP sz s q.seg q.off).1.data) (.int .i64 (foundP sz s q.seg q.off).1.ptrs) (.int .i64 (foundP sz s q.seg q.off).1.size) (.int .i64 (foundP sz s q.seg q.off).1.count) HG.out (by omega) HB0.out)
   go_wp2
   (try simp only [Exit.inBlock,Exit.then])
   obtain ⟨r0,r1,r2,r3,r4,r5,r6,rf⟩:=zC hst.out.1
   refine bodyPost_ret (v:=.tuple #[.agg #[.int .i64 (foundP sz s q.seg q.off).1.kind,.int .i64 (foundP sz s q.seg q.off).1.seg,.int .i64 (foundP sz s q.seg q.off).1.at_,.int .i64 (foundP sz s q.seg q.off).1.data,.int .i64 (foundP sz s q.seg q.off).1.ptrs,.int .i64 (foundP sz s q.seg q.off).1.size,.int .i64 (foundP sz s q.seg q.off).1.count],.int .u16 (foundP sz s q.seg q.off).2]) ?_ rfl ⟨?_,hst.out.2⟩
   ·rw [results_cell_tmp rfl];go_simp
   ·rw [E.out] <;> rfl
theorem zVH {wd:Int→Int→Int×Int} {seg at_:Int} (h:(ptrAt wd seg at_).2=0):(wd seg at_).2=0:=by
 unfold ptrAt at h
 split at h
 ·assumption
 ·exact h
theorem zZA {sv:Value} {sz:List Int} {wd:Int→Int→Int×Int} {w:World} (h:Sou sv sz wd w) (ho:SouOk sz wd) (seg at_:Int):Calls Tryz.prog 233 #[sv,.int .i64 seg,.int .i64 at_] w (ObPost (followP sz wd seg at_) w):=by
 obtain ⟨T,pv,fw,fs,r,rfl,-⟩:=h.out
 have HG:=LH ((Keep.refl NoB w).alloc (.cells #[.int .i64 0,.int .i64 0,.int .i64 0,.int .i64 0,.int .i64 0,.int .i64 0,.int .i64 0] 257))
 have HB0:=LH (heap_alloc_new w (.cells #[.int .i64 0,.int .i64 0,.int .i64 0,.int .i64 0,.int .i64 0,.int .i64 0,.int .i64 0] 257))
 have HS:=LH (h.grow HG.out)
 have HSO:=LH ho
 have HQ:=LH (zSB ho seg at_)
 have HI:=LH (fun h=>ho.inb seg at_ (zVH h))
 have E0:Hid (followP sz wd seg at_=_):=LH (by unfold followP;exact rfl)
 clear h ho
 go_enter Tryz.func233,Tryz.ntmps233
 go_wp2_with fail
 refine (zWC HS.out HSO.out seg at_).mono ?_
 rintro e w1 ⟨rfl,hg⟩
 replace HB0:=LH (hg.heap HB0.out)
 replace HG:=LH (HG.out.grow hg)
 replace HS:=LH (HS.out.grow hg)
 clear hg
 generalize (ptrAt wd seg at_).1=p at *
 generalize (ptrAt wd seg at_).2=y at *
 have hgp:=(Keep.refl NoB w1).alloc (.cells #[.int .i64 p.kind,.int .i64 p.off,.int .i64 p.data,.int .i64 p.ptrs,.int .i64 p.size,.int .i64 p.count,.int .i64 p.seg,.bool p.dbl] 120)
 have hQp:=heap_alloc_new w1 (.cells #[.int .i64 p.kind,.int .i64 p.off,.int .i64 p.data,.int .i64 p.ptrs,.int .i64 p.size,.int .i64 p.count,.int .i64 p.seg,.bool p.dbl] 120)
 replace HB0:=LH (Grow.heap hgp HB0.out)
 replace HG:=LH (HG.out.grow hgp)
 replace HS:=LH (HS.out.grow hgp)
 have HQC:=LH hQp
 obtain ⟨q0,q1,q2,q3,q4,q5,q6,q7,qf⟩:=zO hQp
 clear hgp hQp
 by_cases he:y=0
 case neg =>
  have eb:(y != 0)=true:=by simp [he]
  have E:Hid (followP sz wd seg at_=(ob0,y)):=LH (by rw [E0.out];simp [he])
  clear he
  obtain ⟨b0,b1,b2,b3,b4,b5,b6,bf⟩:=zC HB0.out
  have hst:=LH (zh (.int .i64 0) (.int .i64 0) (.int .i64 0) (.int .i64 0) (.int .i64 0) (.int .i64 0) (.int .i64 0) HG.out (by omega) HB0.out)
  go_wp2
  (try simp only [Exit.inBlock,Exit.then])
  obtain ⟨r0,r1,r2,r3,r4,r5,r6,rf⟩:=zC hst.out.1
  refine bodyPost_ret (v:=.tuple #[.agg #[.int .i64 0,.int .i64 0,.int .i64 0,.int .i64 0,.int .i64 0,.int .i64 0,.int .i64 0],.int .u16 y]) ?_ rfl ⟨?_,hst.out.2⟩
  ·rw [results_cell_tmp rfl];go_simp
  ·rw [E.out] <;> rfl
 subst he
 by_cases hk:p.kind=0
 ·have eb:(p.kind==0)=true:=by simp [hk]
  have E:Hid (followP sz wd seg at_=(ob0,0)):=LH (by rw [E0.out];simp [hk])
  clear hk
  obtain ⟨b0,b1,b2,b3,b4,b5,b6,bf⟩:=zC HB0.out
  have hst:=LH (zh (.int .i64 0) (.int .i64 0) (.int .i64 0) (.int .i64 0) (.int .i64 0) (.int .i64 0) (.int .i64 0) HG.out (by omega) HB0.out)
  go_wp2
  (try simp only [Exit.inBlock,Exit.then])
  obtain ⟨r0,r1,r2,r3,r4,r5,r6,rf⟩:=zC hst.out.1
  refine bodyPost_ret (v:=.tuple #[.agg #[.int .i64 0,.int .i64 0,.int .i64 0,.int .i64 0,.int .i64 0,.int .i64 0,.int .i64 0],.int .u16 0]) ?_ rfl ⟨?_,hst.out.2⟩
  ·rw [results_cell_tmp rfl];go_simp
  ·rw [E.out] <;> rfl
 have ek:(p.kind==0)=false:=by simp [hk]
 have Hk:=LH hk
 clear hk
 go_wp2_with fail
 refine (zvB p _).mono ?_
 rintro e w2 ⟨rfl,hg⟩
 replace HB0:=LH (hg.heap HB0.out)
 replace HQC:=LH (hg.heap HQC.out)
 replace HG:=LH (HG.out.grow hg)
 replace HS:=LH (HS.out.grow hg)
 clear hg
 clear q0 q1 q2 q3 q4 q5 q6 q7 qf
 obtain ⟨q0,q1,q2,q3,q4,q5,q6,q7,qf⟩:=zO HQC.out
 cases hn:isNear p with
 | true =>
  have E:Hid (followP sz wd seg at_=foundP sz p seg (at_+1+p.off)):=LH (by rw [E0.out];simp [hn,Hk.out])
  have hi:=HI.out (by simp)
  have at0:=hi.2.1
  have at1:=hi.2.2
  have qo1:=HQ.out.o.1
  have qo2:=HQ.out.o.2
  clear hn hi
  go_wp2_with fail
  refine (zwB HS.out HSO.out p HQ.out seg (at_+1+p.off) (by omega)).mono ?_
  rintro e w3 ⟨rfl,hg⟩
  replace HB0:=LH (hg.heap HB0.out)
  replace HG:=LH (HG.out.grow hg)
  replace HS:=LH (HS.out.grow hg)
  clear hg
  obtain ⟨b0,b1,b2,b3,b4,b5,b6,bf⟩:=zC HB0.out
  have hst:=LH (zh (.int .i64 (foundP sz p seg (at_+1+p.off)).1.kind) (.int .i64 (foundP sz p seg (at_+1+p.off)).1.seg) (.int .i64 (foundP sz p seg (at_+1+p.off)).1.at_) (.int .i64 (foundP sz p seg (at_+1+p.off)).1.data) (.int .i64 (foundP sz p seg (at_+1+p.off)).1.ptrs) (.int .i64 (foundP sz p seg (at_+1+p.off)).1.size) (.int .i64 (foundP sz p seg (at_+1+p.off)).1.count) HG.out (by omega) HB0.out)
  go_wp2
  (try simp only [Exit.inBlock,Exit.then])
  obtain ⟨r0,r1,r2,r3,r4,r5,r6,rf⟩:=zC hst.out.1
  refine bodyPost_ret (v:=.tuple #[.agg #[.int .i64 (foundP sz p seg (at_+1+p.off)).1.kind,.int .i64 (foundP sz p seg (at_+1+p.off)).1.seg,.int .i64 (foundP sz p seg (at_+1+p.off)).1.at_,.int .i64 (foundP sz p seg (at_+1+p.off)).1.data,.int .i64 (foundP sz p seg (at_+1+p.off)).1.ptrs,.int .i64 (foundP sz p seg (at_+1+p.off)).1.size,.int .i64 (foundP sz p seg (at_+1+p.off)).1.count],.int .u16 (foundP sz p seg (at_+1+p.off)).2]) ?_ rfl ⟨?_,hst.out.2⟩
  ·rw [results_cell_tmp rfl];go_simp
  ·rw [E.out] <;> rfl
 | false =>
  cases hd:p.dbl with
  | true =>
   have E:Hid (followP sz wd seg at_=twiceP sz wd p):=LH (by rw [E0.out];simp [hn,Hk.out,hd])
   clear hn
   go_wp2_with fail
   have ht:=zWG HS.out HSO.out p HQ.out
   rw [hd] at ht
   refine (ht).mono ?_
   rintro e w3 ⟨rfl,hg⟩
   replace HB0:=LH (hg.heap HB0.out)
   replace HG:=LH (HG.out.grow hg)
   replace HS:=LH (HS.out.grow hg)
   clear hg
   obtain ⟨b0,b1,b2,b3,b4,b5,b6,bf⟩:=zC HB0.out
   have hst:=LH (zh (.int .i64 (twiceP sz wd p).1.kind) (.int .i64 (twiceP sz wd p).1.seg) (.int .i64 (twiceP sz wd p).1.at_) (.int .i64 (twiceP sz wd p).1.data) (.int .i64 (twiceP sz wd p).1.ptrs) (.int .i64 (twiceP sz wd p).1.size) (.int .i64 (twiceP sz wd p).1.count) HG.out (by omega) HB0.out)
   go_wp2
   (try simp only [Exit.inBlock,Exit.then])
   obtain ⟨r0,r1,r2,r3,r4,r5,r6,rf⟩:=zC hst.out.1
   refine bodyPost_ret (v:=.tuple #[.agg #[.int .i64 (twiceP sz wd p).1.kind,.int .i64 (twiceP sz wd p).1.seg,.int .i64 (twiceP sz wd p).1.at_,.int .i64 (twiceP sz wd p).1.data,.int .i64 (twiceP sz wd p).1.ptrs,.int .i64 (twiceP sz wd p).1.size,.int .i64 (twiceP sz wd p).1.count],.int .u16 (twiceP sz wd p).2]) ?_ rfl ⟨?_,hst.out.2⟩
   ·rw [results_cell_tmp rfl];go_simp
   ·rw [E.out] <;> rfl
  | false =>
   have E:Hid (followP sz wd seg at_=landedP sz wd p):=LH (by rw [E0.out];simp [hn,Hk.out,hd])
   clear hn
   go_wp2_with fail
   have ht:=zPF HS.out HSO.out p HQ.out
   rw [hd] at ht
   refine (ht).mono ?_
   rintro e w3 ⟨rfl,hg⟩
   replace HB0:=LH (hg.heap HB0.out)
   replace HG:=LH (HG.out.grow hg)
   replace HS:=LH (HS.out.grow hg)
   clear hg
   obtain ⟨b0,b1,b2,b3,b4,b5,b6,bf⟩:=zC HB0.out
   have hst:=LH (zh (.int .i64 (landedP sz wd p).1.kind) (.int .i64 (landedP sz wd p).1.seg) (.int .i64 (landedP sz wd p).1.at_) (.int .i64 (landedP sz wd p).1.data) (.int .i64 (landedP sz wd p).1.ptrs) (.int .i64 (landedP sz wd p).1.size) (.int .i64 (landedP sz wd p).1.count) HG.out (by omega) HB0.out)
   go_wp2
   (try simp only [Exit.inBlock,Exit.then])
   obtain ⟨r0,r1,r2,r3,r4,r5,r6,rf⟩:=zC hst.out.1
   refine bodyPost_ret (v:=.tuple #[.agg #[.int .i64 (landedP sz wd p).1.kind,.int .i64 (landedP sz wd p).1.seg,.int .i64 (landedP sz wd p).1.at_,.int .i64 (landedP sz wd p).1.data,.int .i64 (landedP sz wd p).1.ptrs,.int .i64 (landedP sz wd p).1.size,.int .i64 (landedP sz wd p).1.count],.int .u16 (landedP sz wd p).2]) ?_ rfl ⟨?_,hst.out.2⟩
   ·rw [results_cell_tmp rfl];go_simp
   ·rw [E.out] <;> rfl
end Go.Proofs.YtfkcpaahdlkcdaaGreat

import Derived.Test.YtfkcpaahdlkcdaaGreatRRecvReads34
set_option linter.unusedSimpArgs false
set_option linter.unusedVariables false
set_option maxRecDepth 100000
set_option maxHeartbeats 16000000
namespace Go.Proofs.YtfkcpaahdlkcdaaGreat
open Go.RowKit
theorem zQH (w:World) (a b c:Obj):(((w.alloc a).alloc b).alloc c).heap[w.heap.size]? = some a∧(((w.alloc a).alloc b).alloc c).heap[w.heap.size+1]? = some b∧(((w.alloc a).alloc b).alloc c).heap[w.heap.size+2]? = some c∧(((w.alloc a).alloc b).alloc c).heap.size=w.heap.size+3:=by
 obtain ⟨h1,h2,h3⟩:=zQ w a b
 have hg:=(Keep.refl NoB ((w.alloc a).alloc b)).alloc c
 have h4:=heap_alloc_new ((w.alloc a).alloc b) c
 rw [h3] at h4
 exact ⟨Grow.heap hg h1,Grow.heap hg h2,h4,by simp⟩
structure GI (x:RX) (ad:Addr) (cm:Nat) (A:Option Addr) (ca:Nat) (dn:Int) (w:World) (b7:Nat) (cs:Array Value) (u:World):Prop where
 m:u.heap[w.heap.size]? = some (.cells #[.int .u64 x.s,.slice (some ad) (szs x.a).length cm,.int .u32 (x.m:Nat)] 40 (0,0))
 d:u.heap[w.heap.size+1]? = some (.cells #[.int .u8 0,.int .i64 dn,qJ,qN,qJ,qJ,qO,qI,qI,qI,qI] 91 (0,0))
 z:u.heap[w.heap.size+2]? = some (.cells qE 46 (0,0))
 b:u.heap[b7]? = some (.cells cs 46 (0,0))
 hb:w.heap.size+3≤b7
 g:Grow w u
 s:SliceR 1 (.slice (some ad) (szs x.a).length cm) (szs x.a).length (ints (szs x.a)) u
 r:RowsR .u64 x.a (.slice A x.a.length ca) u
theorem SliceR.away {size n:Nat} {v:Value} {vs:List Value} {w u u':World} {b7:Nat} (h:SliceR size v n vs w) (hg:Grow w u) (hk:Keep (fun k=>k=b7) u u') (hb:w.heap.size≤b7):SliceR size v n vs u' :=
 h.grow ((hg.trans hk (fun i e=>.inr (by rw [e];exact hb))))
section
variable {x:RX} {ad:Addr} {cm:Nat} {A:Option Addr} {ca:Nat} {dn:Int} {w u u':World} {b7:Nat} {cs:Array Value}
theorem GI.grow (h:GI x ad cm A ca dn w b7 cs u) (hg:Grow u u'):GI x ad cm A ca dn w b7 cs u' :=
 ⟨Grow.heap hg h.m,Grow.heap hg h.d,Grow.heap hg h.z,Grow.heap hg h.b,h.hb,h.g.grow hg,h.s.grow hg,h.r.grow hg⟩
theorem GI.put (h:GI x ad cm A ca dn w b7 cs u) (i:Nat) (v:Value) (hs:SliceR 1 (.slice (some ad) (szs x.a).length cm) (szs x.a).length (ints (szs x.a)) w) (hr:RowsR .u64 x.a (.slice A x.a.length ca) w):GI x ad cm A ca dn w b7 (cs.setIfInBounds i v) (u.setCell ⟨b7,i,none⟩ v):=by
 have hk:=zV b7 i u v
 have hb:=h.hb
 have hl1:=(gE h.m).1
 have hl2:=(gE h.d).1
 have hl3:=(gE h.z).1
 have hg:Grow w (u.setCell ⟨b7,i,none⟩ v):=h.g.trans hk (fun j e=>.inr (by rw [e];omega))
 exact ⟨(hk.block _ hl1 (by omega)).trans h.m,(hk.block _ hl2 (by omega)).trans h.d,(hk.block _ hl3 (by omega)).trans h.z,zdA h.b i v,hb,hg,hs.grow hg,hr.grow hg⟩
end
theorem zbG (x:RX) (hx:x.Ok) (ad:Addr) (cm c:Nat) (hc:c<256) (A:Option Addr) (ca:Nat) (w:World) (hS:SliceR 1 (.slice (some ad) (szs x.a).length cm) (szs x.a).length (ints (szs x.a)) w) (hR:RowsR .u64 x.a (.slice A x.a.length ca) w) :
    Calls Tryz.prog 40 #[.agg #[.int .u64 x.s,.slice (some ad) (szs x.a).length cm,.int .u32 (x.m:Nat)],.slice A x.a.length ca,deedV (dN c:Nat)] w (GramPost x ad cm c w):=by
 obtain ⟨b1,b2,b3⟩:=zqH ⟨c,hc⟩
 simp only at b1 b2 b3
 obtain ⟨j0,hj0⟩:∃ j0:Nat,c%16=j0:=⟨_,rfl⟩
 rw [hj0] at b2
 have HJ0:=LH hj0
 have h0c:0≤(j0:Int):=Int.natCast_nonneg _
 clear hj0
 have HSX:=LH hx.small
 have h3:=zQH w (.cells #[.int .u64 x.s,.slice (some ad) (szs x.a).length cm,.int .u32 (x.m:Nat)] 40) (.cells #[.int .u8 0,.int .i64 (dN c:Nat),qJ,qN,qJ,qJ,qO,qI,qI,qI,qI] 91) (.cells qE 46)
 have hg3:=(((Keep.refl NoB w).alloc (.cells #[.int .u64 x.s,.slice (some ad) (szs x.a).length cm,.int .u32 (x.m:Nat)] 40)).alloc (.cells #[.int .u8 0,.int .i64 (dN c:Nat),qJ,qN,qJ,qJ,qO,qI,qI,qI,qI] 91)).alloc (.cells qE 46)
 have HM:=LH h3.1
 have HD:=LH h3.2.1
 have HZ:=LH h3.2.2.1
 have HG:=LH hg3
 have HS:=LH (hS.grow hg3)
 have HR:=LH (hR.grow hg3)
 have HX:=LH hx
 have HS0:=LH hS
 have HR0:=LH hR
 have HSZ3:=LH h3.2.2.2
 clear h3 hg3 hS hR hx
 unfold deedV
 go_enter Tryz.func40,Tryz.ntmps40
 go_wp2
 obtain ⟨w3,hw3⟩:∃ w3,((w.alloc (.cells #[.int .u64 x.s,.slice (some ad) (szs x.a).length cm,.int .u32 (x.m:Nat)] 40)).alloc (.cells #[.int .u8 0,.int .i64 (dN c:Nat),qJ,qN,qJ,qJ,qO,qI,qI,qI,qI] 91)).alloc (.cells qE 46)=w3:=⟨_,rfl⟩
 rw [hw3] at HM HD HZ HG HS HR HSZ3 ⊢
 obtain ⟨m0,m1,m2,mf⟩:=zI HM.out
 have d0:w3.cell? ⟨w.heap.size+1,0,none⟩=some (.int .u8 0):=World.news_of_block HD.out 0 _ rfl
 have d1:w3.cell? ⟨w.heap.size+1,1,none⟩=some (.int .i64 (dN c:Nat)):=World.news_of_block HD.out 1 _ rfl
 clear hw3
 refine Code.wp_mono (Q:=fun e a' w'=>match e with | .normal=>∃ b7,a'={ tmps:=(.agg #[.int .u64 x.s,.slice (some ad) (szs x.a).length cm,.int .u32 (x.m:Nat)] :: .slice A x.a.length ca :: .agg #[.int .u8 0,.int .i64 (dN c:Nat),qJ,qN,qJ,qJ,qO,qI,qI,qI,qI] :: .pointer (some ⟨w.heap.size,0,none⟩) :: undef :: .pointer (some ⟨w.heap.size+1,0,none⟩) :: .pointer (some ⟨w.heap.size+1+1,0,none⟩) :: .pointer (some ⟨b7,0,none⟩) :: .pointer (some ⟨w.heap.size,0,none⟩) :: .int .u64 x.s :: .pointer (some ⟨w.heap.size,2,none⟩) :: .int .u32 (x.m:Nat) :: .pointer (some ⟨w.heap.size+1,1,none⟩) :: .int .i64 (dN c:Nat) :: .int .i64 (j0:Nat) :: .agg #[.int .u64 x.s,.slice (some ad) (szs x.a).length cm,.int .u32 (x.m:Nat)] :: .int .i64 (x.Q:Nat) :: .agg #[qQ,.int .u64 x.s,.int .i64 (j0:Nat),.int .i64 (x.Q:Nat),.int .u32 (x.m:Nat),qI,qI] :: undef :: undef :: undef :: undef :: undef :: undef :: undef :: undef :: undef :: undef :: undef :: undef :: undef :: undef :: undef :: undef :: undef :: undef :: undef :: undef :: undef :: undef :: undef :: undef :: undef :: undef :: undef :: undef :: undef :: undef :: undef :: undef :: undef :: undef :: undef :: undef :: undef :: undef :: undef :: undef :: undef :: undef :: undef :: undef :: undef :: undef :: undef :: undef :: undef :: undef :: undef :: undef :: undef :: undef :: undef :: undef :: undef :: undef :: undef :: undef :: undef :: undef :: undef :: undef :: undef :: undef :: undef :: undef :: undef :: undef :: undef :: undef :: undef :: undef :: undef :: undef :: undef :: []).toArray,defers:=[] }∧Hid (w'.heap[b7]? = some (.cells #[qQ,.int .u64 x.s,.int .i64 (j0:Nat),.int .i64 (x.Q:Nat),.int .u32 (x.m:Nat),qI,qI] 46 (0,0))∧w.heap.size+3≤b7∧Grow w3 w') | _=>False) ?cont ?reg
 case reg =>
  refine zOB NoB [0,1,2,3,4,5,6,7] [] [1,3,5,7] [11] #[true,true,true,true,true,true,true,true,false,false,false,false] 4 rfl (by kernel_rfl) ?_
  refine ord_p ?_
  refine oc1 m0 ?_
  refine ord_p ?_
  refine oc1 m2 ?_
  refine ord_p ?_
  refine oc1 d1 ?_
  refine ord_p ?_
  refine oc3 m0 m1 m2 ?_
  refine zD ?_
  refine zrA 8 10 #[true,true,true,true,true,true,true,true,true,false,false,false] #[true,true,true,true,true,true,true,true,false,false,true,false] (by kernel_rfl) ?_ ?_
  ·refine zG rfl rfl rfl rfl rfl Tryz.func30 rfl rfl [.agg #[.int .u64 x.s,.slice (some ad) (szs x.a).length cm,.int .u32 (x.m:Nat)]] rfl ?_
   refine (zLC x.s x.m (szs x.a) (some ad) cm _ (HS.out.grow (Keep.refl NoB w3).drew) HX.out.fit).mono ?_
   rintro e w4 ⟨rfl,hg4⟩
   refine ⟨_,rfl,fun _=>hg4,?_⟩
   simp only [Act.put,pB,pC,pD]
   refine zD ?_
   refine zPA [9,10,11] [10,11] [] (by kernel_rfl) ?_
   refine ord_p ?_
   refine zh rfl rfl rfl rfl ?_ ?_ ?_ ?_ ?_ ?_
   rotate_left 3
   ·go_simp;first | with_reducible rfl | (constructor <;> with_reducible rfl)
   ·simp only [Act.put,pB,pC,pD];rfl
   have hz7:=heap_alloc_new w4 (.cells qE 46)
   refine zfE rfl rfl rfl rfl _ _ _ rfl w4.heap.size #[qQ,.int .u64 x.s,.int .i64 (j0:Nat),.int .i64 (x.Q:Nat),.int .u32 (x.m:Nat),qI,qI] rfl rfl _ _ hz7 (by kernel_rfl) rfl (by simp [Value.oneCell']) (fun h=>absurd (by simp) h) ?_
   refine zD ?_
   have hs4:=hg4.size
   have hsz3:=HSZ3.out
   have hd3:w3.drew.heap.size=w3.heap.size:=rfl
   exact ⟨w4.heap.size,rfl,LH ⟨setRow_heap _ _ _ _ _ _ hz7,by omega,(((Keep.refl NoB w3).drew.grow hg4).alloc _).setRow (.inr (by omega)) _⟩⟩
  ·refine zh rfl rfl rfl rfl ?_ ?_ ?_ ?_ ?_ ?_
   rotate_left 3
   ·go_simp;first | with_reducible rfl | (constructor <;> with_reducible rfl)
   ·simp only [Act.put,pB,pC,pD];rfl
   have hz7:=heap_alloc_new w3.drew (.cells qE 46)
   have hga:=(Keep.refl NoB w3).drew.alloc (.cells qE 46)
   refine zD ?_
   refine zPA [8,9,11] [8,11] [] (by kernel_rfl) ?_
   refine zG rfl rfl rfl rfl rfl Tryz.func30 rfl rfl [.agg #[.int .u64 x.s,.slice (some ad) (szs x.a).length cm,.int .u32 (x.m:Nat)]] rfl ?_
   refine (zLC x.s x.m (szs x.a) (some ad) cm _ (HS.out.grow hga) HX.out.fit).mono ?_
   rintro e w4 ⟨rfl,hg4⟩
   refine ⟨_,rfl,fun _=>hg4,?_⟩
   simp only [Act.put,pB,pC,pD]
   refine ord_p ?_
   have hz8:=Grow.heap hg4 hz7
   refine zfE rfl rfl rfl rfl _ _ _ rfl w3.drew.heap.size #[qQ,.int .u64 x.s,.int .i64 (j0:Nat),.int .i64 (x.Q:Nat),.int .u32 (x.m:Nat),qI,qI] rfl rfl _ _ hz8 (by kernel_rfl) rfl (by simp [Value.oneCell']) (fun h=>absurd (by simp) h) ?_
   refine zD ?_
   have hsz3:=HSZ3.out
   exact ⟨w3.drew.heap.size,rfl,LH ⟨setRow_heap _ _ _ _ _ _ hz8,by show w.heap.size+3≤w3.heap.size;omega,(hga.grow hg4).setRow (.inr (Nat.le_refl _)) _⟩⟩
 case cont =>
  intro e a' w4 hq
  cases e with
  | normal=>?_
  | _=>exact hq.elim
  obtain ⟨b7,rfl,HF⟩:=hq
  have HI:=LH (show GI x ad cm A ca (dN c:Nat) w b7 _ w4 from ⟨Grow.heap HF.out.2.2 HM.out,Grow.heap HF.out.2.2 HD.out,Grow.heap HF.out.2.2 HZ.out,HF.out.1,HF.out.2.1,HG.out.grow HF.out.2.2,HS.out.grow HF.out.2.2,HR.out.grow HF.out.2.2⟩)
  have hb7:=HF.out.2.1
  clear HF HM HD HZ HG HS HR m0 m1 m2 mf d0 d1
  obtain ⟨z0,z1,z2,z3,z4,z5,z6,zf⟩:=zC HI.out.b
  obtain ⟨m0,m1,m2,mf⟩:=zI HI.out.m
  have d0:w4.cell? ⟨w.heap.size+1,0,none⟩=some (.int .u8 0):=World.news_of_block HI.out.d 0 _ rfl
  have d1:w4.cell? ⟨w.heap.size+1,1,none⟩=some (.int .i64 (dN c:Nat)):=World.news_of_block HI.out.d 1 _ rfl
  have hne:b7≠w.heap.size:=by omega
  have hne1:b7≠w.heap.size+1:=by omega
  have hne2:b7≠w.heap.size+1+1:=by omega
  by_cases hk:c/64%2=0
  ·rw [if_pos hk] at b3
   have HK:=LH hk
   clear hk
   have HMP:=LH (zhC x.s x.m (szs x.a) (some ad) cm _ (HI.out.put 0 (.int .i64 1) HS0.out HR0.out).s HX.out.fit)
   rw [show pagesN (szs x.a)=x.P from rfl] at HMP
   have h1:=HI.out.put 0 (.int .i64 1) HS0.out HR0.out
   have HI1:=LH h1
   clear h1
   go_wp2_with fail
   refine HMP.out.mono ?_
   rintro e w5 ⟨rfl,hg5⟩
   have HI5:=LH (HI1.out.grow hg5)
   clear hg5 HI1 HMP z0 z1 z2 z3 z4 z5 z6 zf m0 m1 m2 mf d0 d1
   obtain ⟨z0,z1,z2,z3,z4,z5,z6,zf⟩:=zC HI5.out.b
   obtain ⟨m0,m1,m2,mf⟩:=zI HI5.out.m
   have d0:w5.cell? ⟨w.heap.size+1,0,none⟩=some (.int .u8 0):=World.news_of_block HI5.out.d 0 _ rfl
   have d1:w5.cell? ⟨w.heap.size+1,1,none⟩=some (.int .i64 (dN c:Nat)):=World.news_of_block HI5.out.d 1 _ rfl
   obtain ⟨j1,hj1⟩:∃ j1:Nat,j0%x.P=j1:=⟨_,rfl⟩
   have HJ1:Hid (j0%x.P=j1∧j1<x.P):=LH ⟨hj1,by rw [← hj1];exact Nat.mod_lt _ (by have:=HSX.out;omega)⟩
   have hjI:(j0:Int)%(x.P:Int)=(j1:Int):=by rw [← hj1];rfl
   have h1P:(1:Int)≤(x.P:Nat):=by have:=HSX.out;omega
   have h2P:¬ ((x.P:Nat):Int)≤0:=by omega
   have h3P:((x.P:Nat):Int)≠0:=by omega
   have h3:=(HI5.out.put 3 (.int .i64 (x.P:Nat)) HS0.out HR0.out).put 2 (.int .i64 (j1:Nat)) HS0.out HR0.out
   have HI6:=LH h3
   clear h3 hj1
   go_wp2_with fail
   refine (zPH x.s x.m ad cm (szs x.a) _ HI6.out.s HX.out.fit j1 HJ1.out.2).mono ?_
   rintro e w8 ⟨rfl,hg8⟩
   have HI8:=LH (HI6.out.grow hg8)
   clear hg8 HI6 HI5 hjI z0 z1 z2 z3 z4 z5 z6 zf m0 m1 m2 mf d0 d1
   obtain ⟨z0,z1,z2,z3,z4,z5,z6,zf⟩:=zC HI8.out.b
   obtain ⟨m0,m1,m2,mf⟩:=zI HI8.out.m
   have d0:w8.cell? ⟨w.heap.size+1,0,none⟩=some (.int .u8 0):=World.news_of_block HI8.out.d 0 _ rfl
   have d1:w8.cell? ⟨w.heap.size+1,1,none⟩=some (.int .i64 (dN c:Nat)):=World.news_of_block HI8.out.d 1 _ rfl
   have HI9:=LH (HI8.out.put 5 (.slice (some (ad.add (4*j1))) (pageP (szs x.a) j1).length (cm-4*j1)) HS0.out HR0.out)
   have hfin:=zc (g:=w.heap.size+1+1) (.int .i64 1) (.int .u64 x.s) (.int .i64 (j1:Nat)) (.int .i64 (x.P:Nat)) (.int .u32 (x.m:Nat)) (.slice (some (ad.add (4*j1))) (pageP (szs x.a) j1).length (cm-4*j1)) (.slice none 0 0) HI9.out.g (show w.heap.size≤w.heap.size+1+1 by omega) (show _=_ from HI9.out.z)
   have HFIN:=LH hfin
   clear hfin
   obtain ⟨y0,y1,y2,y3,y4,y5,y6,yf⟩:=zC (show w8.heap[w.heap.size+1+1]? = some (.cells qE 46 (0,0)) from HI8.out.z)
   clear HI8 HI9
   go_wp2
   obtain ⟨r0,r1,r2,r3,r4,r5,r6,rf⟩:=zC HFIN.out.1
   refine bodyPost_ret (v:=.agg #[.int .i64 1,.int .u64 x.s,.int .i64 (j1:Nat),.int .i64 (x.P:Nat),.int .u32 (x.m:Nat),.slice (some (ad.add (4*j1))) (pageP (szs x.a) j1).length (cm-4*j1),qI]) ?res rfl ?post
   case res=>rw [zO rfl];go_simp
   case post=>exact ⟨HFIN.out.2,.inl ⟨HK.out,by rw [HJ0.out,HJ1.out.1];rfl⟩⟩
  ·rw [if_neg hk] at b3
   have HK:=LH hk
   clear hk
   obtain ⟨j1,hj1⟩:∃ j1:Nat,j0%x.Q=j1:=⟨_,rfl⟩
   have HJ1:Hid (j0%x.Q=j1∧j1<x.Q):=LH ⟨hj1,by rw [← hj1];exact Nat.mod_lt _ (by have:=HSX.out;omega)⟩
   have hjI:(j0:Int)%(x.Q:Int)=(j1:Int):=by rw [← hj1];rfl
   have h1P:(1:Int)≤(x.Q:Nat):=by have:=HSX.out;omega
   have h2P:¬ ((x.Q:Nat):Int)≤0:=by omega
   have h3P:((x.Q:Nat):Int)≠0:=by omega
   have h3:=HI.out.put 2 (.int .i64 (j1:Nat)) HS0.out HR0.out
   have HI6:=LH h3
   have HCH:=LH (zSF x.a HX.out.a HX.out.fit (by have:=HSX.out;omega) j1 (by have:=HJ1.out.2;have:=HSX.out;rw [zMB];omega) A ca _ h3.r)
   clear h3 hj1
   go_wp2_with fail
   refine HCH.out.mono ?_
   rintro e w8 ⟨A2,c2,rfl,hg8,hF8⟩
   have HI8:=LH (HI6.out.grow hg8)
   have HF8:Hid (Foot (SliceR 1 (.slice A2 (chunkP x.a j1).length c2) (chunkP x.a j1).length (u8s (chunkP x.a j1))) w8 (fun k=>w4.heap.size≤k∧k<w8.heap.size)):=LH (by simpa using hF8)
   have HW4:Hid (w.heap.size+2<w4.heap.size∧b7<w4.heap.size):=LH ⟨(gE HI.out.z).1,(gE HI.out.b).1⟩
   clear hg8 hF8 HI6 HI HCH hjI z0 z1 z2 z3 z4 z5 z6 zf m0 m1 m2 mf d0 d1
   obtain ⟨z0,z1,z2,z3,z4,z5,z6,zf⟩:=zC HI8.out.b
   obtain ⟨m0,m1,m2,mf⟩:=zI HI8.out.m
   have d0:w8.cell? ⟨w.heap.size+1,0,none⟩=some (.int .u8 0):=World.news_of_block HI8.out.d 0 _ rfl
   have d1:w8.cell? ⟨w.heap.size+1,1,none⟩=some (.int .i64 (dN c:Nat)):=World.news_of_block HI8.out.d 1 _ rfl
   have HI9:=LH (HI8.out.put 6 (.slice A2 (chunkP x.a j1).length c2) HS0.out HR0.out)
   have hfin:=zc (g:=w.heap.size+1+1) (.int .i64 2) (.int .u64 x.s) (.int .i64 (j1:Nat)) (.int .i64 (x.Q:Nat)) (.int .u32 (x.m:Nat)) (.slice none 0 0) (.slice A2 (chunkP x.a j1).length c2) HI9.out.g (show w.heap.size≤w.heap.size+1+1 by omega) (show _=_ from HI9.out.z)
   have HFIN:=LH hfin
   clear hfin
   have HK7:=LH (((zV b7 6 w8 (.slice A2 (chunkP x.a j1).length c2)).mono (T:=fun k=>k=b7∨k=w.heap.size+1+1) (fun i e=>.inl e)).trans (keep7 _ (w.heap.size+1+1) (.int .i64 2) (.int .u64 x.s) (.int .i64 (j1:Nat)) (.int .i64 (x.Q:Nat)) (.int .u32 (x.m:Nat)) (.slice none 0 0) (.slice A2 (chunkP x.a j1).length c2)) (fun i e=>.inl (.inr e)))
   obtain ⟨y0,y1,y2,y3,y4,y5,y6,yf⟩:=zC (show w8.heap[w.heap.size+1+1]? = some (.cells qE 46 (0,0)) from HI8.out.z)
   clear HI8 HI9
   go_wp2
   obtain ⟨r0,r1,r2,r3,r4,r5,r6,rf⟩:=zC HFIN.out.1
   refine bodyPost_ret (v:=.agg #[qQ,.int .u64 x.s,.int .i64 (j1:Nat),.int .i64 (x.Q:Nat),.int .u32 (x.m:Nat),qI,.slice A2 (chunkP x.a j1).length c2]) ?res rfl ?post
   case res=>rw [zO rfl];go_simp
   case post=>exact ⟨HFIN.out.2,.inr ⟨HK.out,A2,c2,by rw [HJ0.out,HJ1.out.1];rfl,by rw [HJ0.out,HJ1.out.1];exact (HF8.out.keep HK7.out (fun k hk e=>by have:=HW4.out;rcases e with e | e <;> omega)).mono (fun k hk=>hk.2) (fun k hk=>⟨by have:=HW4.out;omega,Nat.lt_of_lt_of_le hk.2 HK7.out.size⟩)⟩⟩
end Go.Proofs.YtfkcpaahdlkcdaaGreat
namespace Go.Proofs.YtfkcpaahdlkcdaaGreat
open Go.RowKit
theorem zPL {g b:Nat} {rc:RC} {p:PP} {d:Par} {G:Nat→Prop} {k:KS} {Gk:Nat→Prop} {w:World} (h:RcvAt g rc b p d G k Gk w) (hph:rc.phase=1) (hkn:k.lo.n≤4096) (hkn2:k.n≤4096) (i:Nat) (hi:i<chunksN d.sz) (hgb:getB d.known i=false) (session:Int) (sum:Nat) (bs:List Int) (hb:OkB bs) (hl:(bs.length:Int)=sizeN d.sz i) (hno:popB (setB d.known i)<chunksN d.sz) (A2:Option Addr) (c2':Nat) (FS:Nat→Prop) (hS:Foot (SliceR 1 (.slice A2 bs.length c2') bs.length (u8s bs)) w FS) (hFS:∀ j,FS j→¬ RF g rc.st b p k j) :
    Calls Tryz.prog 110 #[.pointer (some ⟨g,0,none⟩),.agg #[qQ,.int .u64 session,.int .i64 i,.int .i64 (chunksN d.sz:Nat),.int .u32 (sum:Nat),qI,.slice A2 bs.length c2']] w fun e w'=>e=.returned (.slice none 0 0)∧∃ p' G' k' Gk',RcvAt g { rc with closed:=false,resumed:=false } b p' (d.more i bs) G' k' Gk' w'∧Keep (RF g rc.st b p k) w w'∧p'.wb=p.wb∧k'.lo.n=k.lo.n+1∧k'.n=k.n+1∧k'.nt=k.nt∧∀ j,(RF g rc.st b p' k' j∨G' j∨Gk' j)→(RF g rc.st b p k j∨G j∨Gk j)∨w.heap.size≤j:=by
 have hg0:=(Keep.refl NoB w).alloc (.cells #[qQ,.int .u64 session,.int .i64 i,.int .i64 (chunksN d.sz:Nat),.int .u32 (sum:Nat),qI,.slice A2 bs.length c2'] 46)
 have HZ:=LH (heap_alloc_new w (.cells #[qQ,.int .u64 session,.int .i64 i,.int .i64 (chunksN d.sz:Nat),.int .u32 (sum:Nat),qI,.slice A2 bs.length c2'] 46))
 have HLT:Hid (g<w.heap.size):=LH h.cell.lt
 have H:=LH (h.grow hg0)
 have HG:=LH hg0
 have HGB:=LH hgb
 have HBB:=LH (And.intro hb hl)
 have HS:=LH (hS.grow hg0)
 have HFS:Hid (∀ j,FS j→¬ j=g∧¬ RF g rc.st b p k j):=LH (fun j hj=>⟨fun e=>hFS j hj (.inl e),hFS j hj⟩)
 have hfew:=h.pat.ok.few
 have hlen:0<bs.length∧bs.length≤64:=by
  have h1:=zM h.pat.ok.fit
  have h2:0≤d.sz.sum:=zbA h1.2.2.1
  unfold chunksN at hi
  unfold sizeN at hl
  omega
 have HBP:Hid (w.heap.size≠b∧w.heap.size≠p.wb):=LH (by have:=h.pat.lt;omega)
 clear hgb hb hl hS hFS
 clear h hg0
 go_enter Tryz.func110,Tryz.ntmps110
 obtain ⟨c0,c1,c2,c3,c4,c5,c6,c7,c8,c9,c10,c11,c12,c13,c14,c15,c16,c17,c18,c19,c20,cf⟩:=zH H.out.cell
 go_wp2
 have h2:=H.out.put (rc':={ rc with closed:=false }) 20 (.bool false) rfl rfl rfl
 have HGN:Hid (¬ w.heap.size=g):=LH (fun e=>by have:=HLT.out;omega)
 replace HZ:=LH ((h2.2.block _ (gE HZ.out).1 HGN.out).trans HZ.out)
 have HK:=LH ((HG.out.mono (T:=fun k=>k=g) (fun _ h=>h.elim)).trans h2.2 (fun _ h=>.inl h))
 replace HS:=LH (HS.out.keep h2.2 (fun j hj=>(HFS.out j hj).1))
 replace H:=LH h2.1
 clear h2 HG c0 c1 c2 c3 c4 c5 c6 c7 c8 c9 c10 c11 c12 c13 c14 c15 c16 c17 c18 c19 c20 cf
 generalize (w.alloc (.cells #[qQ,.int .u64 session,.int .i64 i,.int .i64 (chunksN d.sz:Nat),.int .u32 (sum:Nat),qI,.slice A2 bs.length c2'] 46)).setCell ⟨g,20,none⟩ (.bool false)=w2 at H HZ HK HS ⊢
 obtain ⟨c0,c1,c2,c3,c4,c5,c6,c7,c8,c9,c10,c11,c12,c13,c14,c15,c16,c17,c18,c19,c20,cf⟩:=zH H.out.cell
 rw [show ({ rc with closed:=false }:RC).part=some ⟨b,0,none⟩ from H.out.part] at c0
 rw [show ({ rc with closed:=false }:RC).phase=1 from hph] at c6
 obtain ⟨z0,z1,z2,z3,z4,z5,z6,zf⟩:=zC HZ.out
 go_wp2
 refine zE [0,1,2,3,4,5,6,7,8,9,10,11,12,13,14,15,16,17,18,19,20,21,22] [19,20] [3,9,14,18] [] rfl (by kernel_rfl) ?_
 iterate 3
  refine ord_p ?_
 refine oc1 c6 ?_
 iterate 2
  refine ord_p ?_
 iterate 3
  refine zT ?_
 refine oc1G c0 ?_
 refine zT ?_
 iterate 2
  refine ord_p ?_
 refine zT ?_
 refine oc1G z3 ?_
 iterate 3
  refine zT ?_
 refine oc1G c0 ?_
 refine zBA rfl rfl rfl rfl rfl Tryz.func118 rfl rfl [.pointer (some ⟨b,0,none⟩)] rfl ?_
 refine (zpA (H.out.pat.grow (Keep.refl NoB w2).drew)).mono ?_
 rintro e w3 ⟨A4,c4',rfl,hg4,ho4⟩
 refine ⟨_,rfl,fun _=>hg4,?_⟩
 simp only [Act.put,pB,pC,pD]
 refine zBA rfl rfl rfl rfl rfl Tryz.func64 rfl rfl [.agg #[.int .u64 d.session,.slice A4 d.sz.length c4',.int .u32 (d.sum:Nat)]] rfl ?_
 refine (zg d.session d.sum A4 c4' d.sz w3 (SliceR.of_own ho4) H.out.pat.ok.fit).mono ?_
 rintro e w4 ⟨rfl,hg5⟩
 refine ⟨_,rfl,fun _=>hg5,?_⟩
 simp only [Act.put,pB,pC,pD]
 refine zT ?_
 refine ord_p ?_
 refine zD ?_
 have hgd:=((Keep.refl NoB w2).drew.grow hg4).grow hg5
 replace H:=LH (H.out.grow hgd)
 replace HK:=LH (HK.out.grow hgd)
 replace HZ:=LH (Grow.heap hgd HZ.out)
 replace HS:=LH (HS.out.grow hgd)
 clear hg4 hg5 ho4 hgd c0 c1 c2 c3 c4 c5 c6 c7 c8 c9 c10 c11 c12 c13 c14 c15 c16 c17 c18 c19 c20 cf z0 z1 z2 z3 z4 z5 z6 zf
 obtain ⟨c0,c1,c2,c3,c4,c5,c6,c7,c8,c9,c10,c11,c12,c13,c14,c15,c16,c17,c18,c19,c20,cf⟩:=zH H.out.cell
 go_wp2
 have h2:=H.out.put (rc':={ rc with closed:=false,resumed:=false }) 19 (.bool false) rfl rfl rfl
 replace HZ:=LH ((h2.2.block _ (gE HZ.out).1 HGN.out).trans HZ.out)
 replace HK:=LH (HK.out.trans h2.2 (fun _ h=>.inl h))
 replace HS:=LH (HS.out.keep h2.2 (fun j hj=>(HFS.out j hj).1))
 replace H:=LH h2.1
 clear h2 c0 c1 c2 c3 c4 c5 c6 c7 c8 c9 c10 c11 c12 c13 c14 c15 c16 c17 c18 c19 c20 cf
 generalize w4.setCell ⟨g,19,none⟩ (.bool false)=w5 at H HZ HK HS ⊢
 obtain ⟨c0,c1,c2,c3,c4,c5,c6,c7,c8,c9,c10,c11,c12,c13,c14,c15,c16,c17,c18,c19,c20,cf⟩:=zH H.out.cell
 obtain ⟨z0,z1,z2,z3,z4,z5,z6,zf⟩:=zC HZ.out
 rw [show ({ rc with closed:=false,resumed:=false }:RC).part=some ⟨b,0,none⟩ from H.out.part] at c0
 refine zE [0,1,2,3,5,6,4,7,8] [4,7,8] [3,6] [] rfl (by kernel_rfl) ?_
 iterate 3
  refine ord_p ?_
 refine oc1 c0 ?_
 refine ord_p ?_
 refine oc1 z2 ?_
 refine zG rfl rfl rfl rfl rfl Tryz.func117 rfl rfl [.pointer (some ⟨b,0,none⟩)] rfl ?_
 refine (zwA (H.out.pat.grow (Keep.refl NoB w5).drew)).mono ?_
 rintro e w6 ⟨A6,c6',rfl,hg6,ho6⟩
 refine ⟨_,rfl,fun _=>hg6,?_⟩
 simp only [Act.put,pB,pC,pD]
 refine zG rfl rfl rfl rfl rfl Tryz.func82 rfl rfl [.slice A6 d.known.length c6',.int .i64 i] rfl ?_
 refine (zhA A6 c6' d.known H.out.pat.ok.known i (by have:=H.out.pat.ok.few;omega) w6 (SliceR.of_own ho6)).mono ?_
 rintro e w7 ⟨rfl,rfl⟩
 refine ⟨_,rfl,fun _=>Keep.refl _ _,?_⟩
 simp only [Act.put,pB,pC,pD]
 rw [HGB.out]
 refine ord_s ?_
 refine zD ?_
 have hgd:=(Keep.refl NoB w5).drew.grow hg6
 replace H:=LH (H.out.grow hgd)
 replace HK:=LH (HK.out.grow hgd)
 replace HZ:=LH (Grow.heap hgd HZ.out)
 replace HS:=LH (HS.out.grow hgd)
 clear hg6 ho6 hgd c0 c1 c2 c3 c4 c5 c6 c7 c8 c9 c10 c11 c12 c13 c14 c15 c16 c17 c18 c19 c20 cf z0 z1 z2 z3 z4 z5 z6 zf
 obtain ⟨c0,c1,c2,c3,c4,c5,c6,c7,c8,c9,c10,c11,c12,c13,c14,c15,c16,c17,c18,c19,c20,cf⟩:=zH H.out.cell
 obtain ⟨z0,z1,z2,z3,z4,z5,z6,zf⟩:=zC HZ.out
 rw [show ({ rc with closed:=false,resumed:=false }:RC).part=some ⟨b,0,none⟩ from H.out.part] at c0
 go_wp2
 refine zE [0,1,2,3,4,5,6,7,8,9] [8] [3,5,7] [8] rfl (by kernel_rfl) ?_
 iterate 3
  refine ord_p ?_
 refine oc1 c0 ?_
 refine ord_p ?_
 refine oc1 z2 ?_
 refine ord_p ?_
 refine oc1 z6 ?_
 refine zG rfl rfl rfl rfl rfl Tryz.func106 rfl rfl [.pointer (some ⟨b,0,none⟩),.int .i64 i,.slice A2 bs.length c2'] rfl ?_
 refine (zmD (H.out.pat.grow (Keep.refl NoB w6).drew) i hi HGB.out A2 c2' bs HBB.out.1 HBB.out.2 FS (HS.out.grow (Keep.refl NoB w6).drew) (fun j hj e=>(HFS.out j hj).2 (.inr (.inr (.inl e))))).mono ?_
 rintro e w8 ⟨rfl,p',G',hwb,hP',hk8,hG'⟩
 refine ⟨_,rfl,fun h=>absurd (by simp) h,?_⟩
 simp only [Act.put,pB,pC,pD]
 refine ord_p ?_
 refine zD ?_
 have hHn:=(H.out.grow (Keep.refl NoB w6).drew).morePart (d':=d.more i bs) hwb hP' hk8 hG'
 have HGP:Hid (∀ j,G' j→G j∨w.heap.size≤j):=LH (fun j hj=>(hG' j hj).imp id (fun h=>Nat.le_trans HK.out.size h))
 replace HS:=LH ((HS.out.grow (Keep.refl NoB w6).drew).keep hk8 (fun j hj e=>(HFS.out j hj).2 (.inr (e.imp id .inl))))
 have hzn:=HGN.out
 have HWB:=LH (show w.heap.size≠b∧w.heap.size≠p.wb from HBP.out)
 replace HZ:=LH ((hk8.block w.heap.size (gE (show w6.drew.heap[w.heap.size]? = _ from HZ.out)).1 (fun e=>e.elim HWB.out.1 HWB.out.2)).trans (show w6.drew.heap[w.heap.size]? = _ from HZ.out))
 replace HK:=LH ((HK.out.drew.mono (T:=RF g rc.st b p k) (fun _ h=>.inl h)).trans hk8 (fun j hj=>.inl (.inr (hj.imp id .inl))))
 have HWB2:=LH hwb
 replace H:=LH hHn
 clear hHn hzn hwb hP' hk8 hG' c0 c1 c2 c3 c4 c5 c6 c7 c8 c9 c10 c11 c12 c13 c14 c15 c16 c17 c18 c19 c20 cf z0 z1 z2 z3 z4 z5 z6 zf
 obtain ⟨c0,c1,c2,c3,c4,c5,c6,c7,c8,c9,c10,c11,c12,c13,c14,c15,c16,c17,c18,c19,c20,cf⟩:=zH H.out.cell
 obtain ⟨z0,z1,z2,z3,z4,z5,z6,zf⟩:=zC HZ.out
 go_wp2
 refine zE [0,1,2,3,4,5,6,7,8] [8] [3,5,7] [8] rfl (by kernel_rfl) ?_
 iterate 3
  refine ord_p ?_
 refine oc1 c5 ?_
 refine ord_p ?_
 refine oc1 z2 ?_
 refine ord_p ?_
 refine oc1 z6 ?_
 refine zG rfl rfl rfl rfl rfl Tryz.func182 rfl rfl [.pointer (some ⟨rc.st,0,none⟩),.int .i64 i,.slice A2 bs.length c2'] rfl ?_
 refine (zVC (s:=rc.st) (H.out.kat.grow (Keep.refl NoB w8).drew) hkn hkn2 i (by omega) A2 bs c2' hlen.2 hlen.1 (HS.out.grow (Keep.refl NoB w8).drew).now).mono ?_
 rintro e w9 ⟨rfl,x,A9,c9',hxb,hK9,hk9,hx9,hlo9⟩
 refine ⟨_,rfl,fun h=>absurd (by simp) h,?_⟩
 simp only [Act.put,pB,pC,pD]
 refine zD ?_
 have hdz:w8.drew.heap.size=w8.heap.size:=rfl
 have hHn:=(H.out.grow (Keep.refl NoB w8).drew).moreStore (k':=(k.put i x).step A9 c9') hK9 hk9 (fun j hj=>by
  rcases hj with e | e | e
  ·exact .inl (.inl e)
  ·exact .inl (.inr (.inl e))
  ·exact (hlo9 j e).imp (fun h=>.inr (.inr h)) id) (fun j hj=>hj.imp id (fun e=>by rw [e];exact hx9))
 have HRF:Hid (∀ j,(RF g rc.st b p' ((k.put i x).step A9 c9') j∨G' j∨(Gk j∨j=x.b))→(RF g rc.st b p k j∨G j∨Gk j)∨w.heap.size≤j):=LH (fun j hj=>by
  rcases hj with (e | e | e | e | e | e) | e | e | e
  ·exact .inl (.inl (.inl e))
  ·exact .inl (.inl (.inr (.inl e)))
  ·rw [HWB2.out] at e;exact .inl (.inl (.inr (.inr (.inl e))))
  ·exact .inl (.inl (.inr (.inr (.inr (.inl e)))))
  ·exact .inl (.inl (.inr (.inr (.inr (.inr (.inl e))))))
  ·rcases hlo9 j e with h | h
   ·exact .inl (.inl (.inr (.inr (.inr (.inr (.inr h))))))
   ·exact .inr (by have:=HK.out.size;omega)
  ·exact (HGP.out j e).imp (fun h=>.inr (.inl h)) id
  ·exact .inl (.inr (.inr e))
  ·exact .inr (by have:=HK.out.size;omega))
 replace HK:=LH (HK.out.drew.trans hk9 (fun j hj=>.inl (.inr (.inr (.inr hj)))))
 have HKN:Hid (((k.put i x).step A9 c9').lo.n=k.lo.n+1∧((k.put i x).step A9 c9').n=k.n+1∧((k.put i x).step A9 c9').nt=k.nt):=LH ⟨rfl,rfl,rfl⟩
 obtain ⟨k',hk'⟩:∃ k',(k.put i x).step A9 c9'=k':=⟨_,rfl⟩
 rw [hk'] at hHn HRF HKN
 obtain ⟨Gk',hGk'⟩:∃ Gk':Nat→Prop,(fun j=>Gk j∨j=x.b)=Gk':=⟨_,rfl⟩
 rw [hGk'] at hHn
 rw [show (∀ j,(RF g rc.st b p' k' j∨G' j∨(Gk j∨j=x.b))→(RF g rc.st b p k j∨G j∨Gk j)∨w.heap.size≤j)=(∀ j,(RF g rc.st b p' k' j∨G' j∨Gk' j)→(RF g rc.st b p k j∨G j∨Gk j)∨w.heap.size≤j) from by rw [← hGk']] at HRF
 replace H:=LH hHn
 clear hHn hk' hGk' hxb hK9 hk9 hx9 hlo9 hdz HZ HS c0 c1 c2 c3 c4 c5 c6 c7 c8 c9 c10 c11 c12 c13 c14 c15 c16 c17 c18 c19 c20 cf z0 z1 z2 z3 z4 z5 z6 zf
 go_wp2_with fail
 refine (zxE H.out.cell H.out.part H.out.pat hno).mono ?_
 rintro e w10 ⟨⟨v,rfl⟩,hg9⟩
 replace H:=LH (H.out.grow hg9)
 replace HK:=LH (HK.out.grow hg9)
 clear hg9
 obtain ⟨c0,c1,c2,c3,c4,c5,c6,c7,c8,c9,c10,c11,c12,c13,c14,c15,c16,c17,c18,c19,c20,cf⟩:=zH H.out.cell
 rw [show ({ rc with closed:=false,resumed:=false }:RC).phase=1 from hph] at c6
 go_wp2
 go_ret
 exact ⟨rfl,p',G',k',Gk',H.out,HK.out,HWB2.out,HKN.out.1,HKN.out.2.1,HKN.out.2.2,HRF.out⟩
theorem zQL {g b:Nat} {rc:RC} {p:PP} {d:Par} {G:Nat→Prop} {k:KS} {Gk:Nat→Prop} {w:World} (h:RcvAt g rc b p d G k Gk w) (hph:rc.phase=1) (hkn:k.lo.n≤4096) (hkn2:k.n≤4096) (i:Nat) (hi:i<chunksN d.sz) (hgb:getB d.known i=false) (session:Int) (sum:Nat) (bs:List Int) (hb:OkB bs) (hl:(bs.length:Int)=sizeN d.sz i) (hall:chunksN d.sz≤popB (setB d.known i)) (he:∀ rc:RC,rc.ended (d.more i bs)={ rc with phase:=2 }) (A2:Option Addr) (c2':Nat) (FS:Nat→Prop) (hS:Foot (SliceR 1 (.slice A2 bs.length c2') bs.length (u8s bs)) w FS) (hFS:∀ j,FS j→¬ RF g rc.st b p k j) :
    Calls Tryz.prog 110 #[.pointer (some ⟨g,0,none⟩),.agg #[qQ,.int .u64 session,.int .i64 i,.int .i64 (chunksN d.sz:Nat),.int .u32 (sum:Nat),qI,.slice A2 bs.length c2']] w fun e w'=>e=.returned (.slice none 0 0)∧∃ p' G' k' Gk',RcvAt g { rc with closed:=false,resumed:=false,phase:=2 } b p' (d.more i bs) G' k' Gk' w'∧Keep (RF g rc.st b p k) w w'∧p'.wb=p.wb∧k'.lo.n=k.lo.n+1∧k'.n=k.n+1∧k'.nt=k.nt∧∀ j,(RF g rc.st b p' k' j∨G' j∨Gk' j)→(RF g rc.st b p k j∨G j∨Gk j)∨w.heap.size≤j:=by
 have hg0:=(Keep.refl NoB w).alloc (.cells #[qQ,.int .u64 session,.int .i64 i,.int .i64 (chunksN d.sz:Nat),.int .u32 (sum:Nat),qI,.slice A2 bs.length c2'] 46)
 have HZ:=LH (heap_alloc_new w (.cells #[qQ,.int .u64 session,.int .i64 i,.int .i64 (chunksN d.sz:Nat),.int .u32 (sum:Nat),qI,.slice A2 bs.length c2'] 46))
 have HLT:Hid (g<w.heap.size):=LH h.cell.lt
 have H:=LH (h.grow hg0)
 have HG:=LH hg0
 have HGB:=LH hgb
 have HBB:=LH (And.intro hb hl)
 have HS:=LH (hS.grow hg0)
 have HFS:Hid (∀ j,FS j→¬ j=g∧¬ RF g rc.st b p k j):=LH (fun j hj=>⟨fun e=>hFS j hj (.inl e),hFS j hj⟩)
 have hfew:=h.pat.ok.few
 have hlen:0<bs.length∧bs.length≤64:=by
  have h1:=zM h.pat.ok.fit
  have h2:0≤d.sz.sum:=zbA h1.2.2.1
  unfold chunksN at hi
  unfold sizeN at hl
  omega
 have HBP:Hid (w.heap.size≠b∧w.heap.size≠p.wb):=LH (by have:=h.pat.lt;omega)
 clear hgb hb hl hS hFS
 have HE:=LH he
 clear he
 clear h hg0
 go_enter Tryz.func110,Tryz.ntmps110
 obtain ⟨c0,c1,c2,c3,c4,c5,c6,c7,c8,c9,c10,c11,c12,c13,c14,c15,c16,c17,c18,c19,c20,cf⟩:=zH H.out.cell
 go_wp2
 have h2:=H.out.put (rc':={ rc with closed:=false }) 20 (.bool false) rfl rfl rfl
 have HGN:Hid (¬ w.heap.size=g):=LH (fun e=>by have:=HLT.out;omega)
 replace HZ:=LH ((h2.2.block _ (gE HZ.out).1 HGN.out).trans HZ.out)
 have HK:=LH ((HG.out.mono (T:=fun k=>k=g) (fun _ h=>h.elim)).trans h2.2 (fun _ h=>.inl h))
 replace HS:=LH (HS.out.keep h2.2 (fun j hj=>(HFS.out j hj).1))
 replace H:=LH h2.1
 clear h2 HG c0 c1 c2 c3 c4 c5 c6 c7 c8 c9 c10 c11 c12 c13 c14 c15 c16 c17 c18 c19 c20 cf
 generalize (w.alloc (.cells #[qQ,.int .u64 session,.int .i64 i,.int .i64 (chunksN d.sz:Nat),.int .u32 (sum:Nat),qI,.slice A2 bs.length c2'] 46)).setCell ⟨g,20,none⟩ (.bool false)=w2 at H HZ HK HS ⊢
 obtain ⟨c0,c1,c2,c3,c4,c5,c6,c7,c8,c9,c10,c11,c12,c13,c14,c15,c16,c17,c18,c19,c20,cf⟩:=zH H.out.cell
 rw [show ({ rc with closed:=false }:RC).part=some ⟨b,0,none⟩ from H.out.part] at c0
 rw [show ({ rc with closed:=false }:RC).phase=1 from hph] at c6
 obtain ⟨z0,z1,z2,z3,z4,z5,z6,zf⟩:=zC HZ.out
 go_wp2
 refine zE [0,1,2,3,4,5,6,7,8,9,10,11,12,13,14,15,16,17,18,19,20,21,22] [19,20] [3,9,14,18] [] rfl (by kernel_rfl) ?_
 iterate 3
  refine ord_p ?_
 refine oc1 c6 ?_
 iterate 2
  refine ord_p ?_
 iterate 3
  refine zT ?_
 refine oc1G c0 ?_
 refine zT ?_
 iterate 2
  refine ord_p ?_
 refine zT ?_
 refine oc1G z3 ?_
 iterate 3
  refine zT ?_
 refine oc1G c0 ?_
 refine zBA rfl rfl rfl rfl rfl Tryz.func118 rfl rfl [.pointer (some ⟨b,0,none⟩)] rfl ?_
 refine (zpA (H.out.pat.grow (Keep.refl NoB w2).drew)).mono ?_
 rintro e w3 ⟨A4,c4',rfl,hg4,ho4⟩
 refine ⟨_,rfl,fun _=>hg4,?_⟩
 simp only [Act.put,pB,pC,pD]
 refine zBA rfl rfl rfl rfl rfl Tryz.func64 rfl rfl [.agg #[.int .u64 d.session,.slice A4 d.sz.length c4',.int .u32 (d.sum:Nat)]] rfl ?_
 refine (zg d.session d.sum A4 c4' d.sz w3 (SliceR.of_own ho4) H.out.pat.ok.fit).mono ?_
 rintro e w4 ⟨rfl,hg5⟩
 refine ⟨_,rfl,fun _=>hg5,?_⟩
 simp only [Act.put,pB,pC,pD]
 refine zT ?_
 refine ord_p ?_
 refine zD ?_
 have hgd:=((Keep.refl NoB w2).drew.grow hg4).grow hg5
 replace H:=LH (H.out.grow hgd)
 replace HK:=LH (HK.out.grow hgd)
 replace HZ:=LH (Grow.heap hgd HZ.out)
 replace HS:=LH (HS.out.grow hgd)
 clear hg4 hg5 ho4 hgd c0 c1 c2 c3 c4 c5 c6 c7 c8 c9 c10 c11 c12 c13 c14 c15 c16 c17 c18 c19 c20 cf z0 z1 z2 z3 z4 z5 z6 zf
 obtain ⟨c0,c1,c2,c3,c4,c5,c6,c7,c8,c9,c10,c11,c12,c13,c14,c15,c16,c17,c18,c19,c20,cf⟩:=zH H.out.cell
 go_wp2
 have h2:=H.out.put (rc':={ rc with closed:=false,resumed:=false }) 19 (.bool false) rfl rfl rfl
 replace HZ:=LH ((h2.2.block _ (gE HZ.out).1 HGN.out).trans HZ.out)
 replace HK:=LH (HK.out.trans h2.2 (fun _ h=>.inl h))
 replace HS:=LH (HS.out.keep h2.2 (fun j hj=>(HFS.out j hj).1))
 replace H:=LH h2.1
 clear h2 c0 c1 c2 c3 c4 c5 c6 c7 c8 c9 c10 c11 c12 c13 c14 c15 c16 c17 c18 c19 c20 cf
 generalize w4.setCell ⟨g,19,none⟩ (.bool false)=w5 at H HZ HK HS ⊢
 obtain ⟨c0,c1,c2,c3,c4,c5,c6,c7,c8,c9,c10,c11,c12,c13,c14,c15,c16,c17,c18,c19,c20,cf⟩:=zH H.out.cell
 obtain ⟨z0,z1,z2,z3,z4,z5,z6,zf⟩:=zC HZ.out
 rw [show ({ rc with closed:=false,resumed:=false }:RC).part=some ⟨b,0,none⟩ from H.out.part] at c0
 refine zE [0,1,2,3,5,6,4,7,8] [4,7,8] [3,6] [] rfl (by kernel_rfl) ?_
 iterate 3
  refine ord_p ?_
 refine oc1 c0 ?_
 refine ord_p ?_
 refine oc1 z2 ?_
 refine zG rfl rfl rfl rfl rfl Tryz.func117 rfl rfl [.pointer (some ⟨b,0,none⟩)] rfl ?_
 refine (zwA (H.out.pat.grow (Keep.refl NoB w5).drew)).mono ?_
 rintro e w6 ⟨A6,c6',rfl,hg6,ho6⟩
 refine ⟨_,rfl,fun _=>hg6,?_⟩
 simp only [Act.put,pB,pC,pD]
 refine zG rfl rfl rfl rfl rfl Tryz.func82 rfl rfl [.slice A6 d.known.length c6',.int .i64 i] rfl ?_
 refine (zhA A6 c6' d.known H.out.pat.ok.known i (by have:=H.out.pat.ok.few;omega) w6 (SliceR.of_own ho6)).mono ?_
 rintro e w7 ⟨rfl,rfl⟩
 refine ⟨_,rfl,fun _=>Keep.refl _ _,?_⟩
 simp only [Act.put,pB,pC,pD]
 rw [HGB.out]
 refine ord_s ?_
 refine zD ?_
 have hgd:=(Keep.refl NoB w5).drew.grow hg6
 replace H:=LH (H.out.grow hgd)
 replace HK:=LH (HK.out.grow hgd)
 replace HZ:=LH (Grow.heap hgd HZ.out)
 replace HS:=LH (HS.out.grow hgd)
 clear hg6 ho6 hgd c0 c1 c2 c3 c4 c5 c6 c7 c8 c9 c10 c11 c12 c13 c14 c15 c16 c17 c18 c19 c20 cf z0 z1 z2 z3 z4 z5 z6 zf
 obtain ⟨c0,c1,c2,c3,c4,c5,c6,c7,c8,c9,c10,c11,c12,c13,c14,c15,c16,c17,c18,c19,c20,cf⟩:=zH H.out.cell
 obtain ⟨z0,z1,z2,z3,z4,z5,z6,zf⟩:=zC HZ.out
 rw [show ({ rc with closed:=false,resumed:=false }:RC).part=some ⟨b,0,none⟩ from H.out.part] at c0
 go_wp2
 refine zE [0,1,2,3,4,5,6,7,8,9] [8] [3,5,7] [8] rfl (by kernel_rfl) ?_
 iterate 3
  refine ord_p ?_
 refine oc1 c0 ?_
 refine ord_p ?_
 refine oc1 z2 ?_
 refine ord_p ?_
 refine oc1 z6 ?_
 refine zG rfl rfl rfl rfl rfl Tryz.func106 rfl rfl [.pointer (some ⟨b,0,none⟩),.int .i64 i,.slice A2 bs.length c2'] rfl ?_
 refine (zmD (H.out.pat.grow (Keep.refl NoB w6).drew) i hi HGB.out A2 c2' bs HBB.out.1 HBB.out.2 FS (HS.out.grow (Keep.refl NoB w6).drew) (fun j hj e=>(HFS.out j hj).2 (.inr (.inr (.inl e))))).mono ?_
 rintro e w8 ⟨rfl,p',G',hwb,hP',hk8,hG'⟩
 refine ⟨_,rfl,fun h=>absurd (by simp) h,?_⟩
 simp only [Act.put,pB,pC,pD]
 refine ord_p ?_
 refine zD ?_
 have hHn:=(H.out.grow (Keep.refl NoB w6).drew).morePart (d':=d.more i bs) hwb hP' hk8 hG'
 have HGP:Hid (∀ j,G' j→G j∨w.heap.size≤j):=LH (fun j hj=>(hG' j hj).imp id (fun h=>Nat.le_trans HK.out.size h))
 replace HS:=LH ((HS.out.grow (Keep.refl NoB w6).drew).keep hk8 (fun j hj e=>(HFS.out j hj).2 (.inr (e.imp id .inl))))
 have hzn:=HGN.out
 have HWB:=LH (show w.heap.size≠b∧w.heap.size≠p.wb from HBP.out)
 replace HZ:=LH ((hk8.block w.heap.size (gE (show w6.drew.heap[w.heap.size]? = _ from HZ.out)).1 (fun e=>e.elim HWB.out.1 HWB.out.2)).trans (show w6.drew.heap[w.heap.size]? = _ from HZ.out))
 replace HK:=LH ((HK.out.drew.mono (T:=RF g rc.st b p k) (fun _ h=>.inl h)).trans hk8 (fun j hj=>.inl (.inr (hj.imp id .inl))))
 have HWB2:=LH hwb
 replace H:=LH hHn
 clear hHn hzn hwb hP' hk8 hG' c0 c1 c2 c3 c4 c5 c6 c7 c8 c9 c10 c11 c12 c13 c14 c15 c16 c17 c18 c19 c20 cf z0 z1 z2 z3 z4 z5 z6 zf
 obtain ⟨c0,c1,c2,c3,c4,c5,c6,c7,c8,c9,c10,c11,c12,c13,c14,c15,c16,c17,c18,c19,c20,cf⟩:=zH H.out.cell
 obtain ⟨z0,z1,z2,z3,z4,z5,z6,zf⟩:=zC HZ.out
 go_wp2
 refine zE [0,1,2,3,4,5,6,7,8] [8] [3,5,7] [8] rfl (by kernel_rfl) ?_
 iterate 3
  refine ord_p ?_
 refine oc1 c5 ?_
 refine ord_p ?_
 refine oc1 z2 ?_
 refine ord_p ?_
 refine oc1 z6 ?_
 refine zG rfl rfl rfl rfl rfl Tryz.func182 rfl rfl [.pointer (some ⟨rc.st,0,none⟩),.int .i64 i,.slice A2 bs.length c2'] rfl ?_
 refine (zVC (s:=rc.st) (H.out.kat.grow (Keep.refl NoB w8).drew) hkn hkn2 i (by omega) A2 bs c2' hlen.2 hlen.1 (HS.out.grow (Keep.refl NoB w8).drew).now).mono ?_
 rintro e w9 ⟨rfl,x,A9,c9',hxb,hK9,hk9,hx9,hlo9⟩
 refine ⟨_,rfl,fun h=>absurd (by simp) h,?_⟩
 simp only [Act.put,pB,pC,pD]
 refine zD ?_
 have hdz:w8.drew.heap.size=w8.heap.size:=rfl
 have hHn:=(H.out.grow (Keep.refl NoB w8).drew).moreStore (k':=(k.put i x).step A9 c9') hK9 hk9 (fun j hj=>by
  rcases hj with e | e | e
  ·exact .inl (.inl e)
  ·exact .inl (.inr (.inl e))
  ·exact (hlo9 j e).imp (fun h=>.inr (.inr h)) id) (fun j hj=>hj.imp id (fun e=>by rw [e];exact hx9))
 have HRF:Hid (∀ j,(RF g rc.st b p' ((k.put i x).step A9 c9') j∨G' j∨(Gk j∨j=x.b))→(RF g rc.st b p k j∨G j∨Gk j)∨w.heap.size≤j):=LH (fun j hj=>by
  rcases hj with (e | e | e | e | e | e) | e | e | e
  ·exact .inl (.inl (.inl e))
  ·exact .inl (.inl (.inr (.inl e)))
  ·rw [HWB2.out] at e;exact .inl (.inl (.inr (.inr (.inl e))))
  ·exact .inl (.inl (.inr (.inr (.inr (.inl e)))))
  ·exact .inl (.inl (.inr (.inr (.inr (.inr (.inl e))))))
  ·rcases hlo9 j e with h | h
   ·exact .inl (.inl (.inr (.inr (.inr (.inr (.inr h))))))
   ·exact .inr (by have:=HK.out.size;omega)
  ·exact (HGP.out j e).imp (fun h=>.inr (.inl h)) id
  ·exact .inl (.inr (.inr e))
  ·exact .inr (by have:=HK.out.size;omega))
 replace HK:=LH (HK.out.drew.trans hk9 (fun j hj=>.inl (.inr (.inr (.inr hj)))))
 have HKN:Hid (((k.put i x).step A9 c9').lo.n=k.lo.n+1∧((k.put i x).step A9 c9').n=k.n+1∧((k.put i x).step A9 c9').nt=k.nt):=LH ⟨rfl,rfl,rfl⟩
 obtain ⟨k',hk'⟩:∃ k',(k.put i x).step A9 c9'=k':=⟨_,rfl⟩
 rw [hk'] at hHn HRF HKN
 obtain ⟨Gk',hGk'⟩:∃ Gk':Nat→Prop,(fun j=>Gk j∨j=x.b)=Gk':=⟨_,rfl⟩
 rw [hGk'] at hHn
 rw [show (∀ j,(RF g rc.st b p' k' j∨G' j∨(Gk j∨j=x.b))→(RF g rc.st b p k j∨G j∨Gk j)∨w.heap.size≤j)=(∀ j,(RF g rc.st b p' k' j∨G' j∨Gk' j)→(RF g rc.st b p k j∨G j∨Gk j)∨w.heap.size≤j) from by rw [← hGk']] at HRF
 replace H:=LH hHn
 clear hHn hk' hGk' hxb hK9 hk9 hx9 hlo9 hdz HZ HS c0 c1 c2 c3 c4 c5 c6 c7 c8 c9 c10 c11 c12 c13 c14 c15 c16 c17 c18 c19 c20 cf z0 z1 z2 z3 z4 z5 z6 zf
 go_wp2_with fail
 refine (zIE H.out.cell H.out.part H.out.pat hall).mono ?_
 rintro e w10 ⟨⟨v,rfl⟩,hR,hkg⟩
 rw [HE.out] at hR
 replace HK:=LH (HK.out.trans hkg (fun j hj=>.inl (.inl hj)))
 replace H:=LH (show RcvAt g { rc with closed:=false,resumed:=false,phase:=2 } b p' (d.more i bs) G' k' Gk' w10 from ⟨hR,H.out.part,H.out.pat.keep hkg (fun e=>H.out.gb.1 e.symm) (fun e=>H.out.gb.2.1 e.symm) (fun j hj e=>H.out.gb.2.2.1 (by rw [← e];exact hj)),H.out.kat.keep hkg (fun j hj e=>H.out.gb.2.2.2.1 (by rw [← e];exact hj)) (fun j hj e=>H.out.gb.2.2.2.2 (by rw [← e];exact hj)),H.out.gb,H.out.kf,H.out.kg⟩)
 clear hR hkg
 obtain ⟨c0,c1,c2,c3,c4,c5,c6,c7,c8,c9,c10,c11,c12,c13,c14,c15,c16,c17,c18,c19,c20,cf⟩:=zH H.out.cell
 go_wp2
 go_ret
 exact ⟨rfl,p',G',k',Gk',H.out,HK.out,HWB2.out,HKN.out.1,HKN.out.2.1,HKN.out.2.2,HRF.out⟩
end Go.Proofs.YtfkcpaahdlkcdaaGreat

import Derived.Test.YtfkcpaahdlkcdaaGreatRRecvSum14
set_option linter.unusedSimpArgs false
set_option linter.unusedVariables false
set_option maxRecDepth 100000
set_option maxHeartbeats 16000000
namespace Go.Proofs.YtfkcpaahdlkcdaaGreat
open Go.RowKit
theorem zzF (session:Int) (h0:0≤session) (h1:session≤18446744073709551615) (sum:Nat) (A1:Option Addr) (c1:Nat) (l:List Int) (hl9:l.length≤1000000) (a:List (List Int)) (ho:OkA a) (hfit:fitsB (szs a)=true) (hfl:a.flatten.length≤1000000) (A:Option Addr) (c:Nat) (w:World) (hS:SliceR 1 (.slice A1 l.length c1) l.length (ints l) w) (hR:RowsR .u64 a (.slice A a.length c) w) :
    Calls Tryz.prog 171 #[.agg #[.int .u64 session,.slice A1 l.length c1,.int .u32 (sum:Nat)],.slice A a.length c] w fun e w'=>e=.returned (.bool (decide (sum=sumP session a∧l=szs a)))∧Grow w w':=by
 have hg0:=(Keep.refl NoB w).alloc (.cells #[.int .u64 session,.slice A1 l.length c1,.int .u32 (sum:Nat)] 40)
 have hc0:=heap_alloc_new w (.cells #[.int .u64 session,.slice A1 l.length c1,.int .u32 (sum:Nat)] 40)
 have HG:=LH hg0
 have HC:=LH hc0
 have HS:=LH (hS.grow hg0)
 have HM:=LH (zeF session h0 h1 a ho hfit hfl A c _ (hR.grow hg0))
 obtain ⟨m0,m1,m2,mf⟩:=zI hc0
 clear hg0 hc0 hS hR
 go_enter Tryz.func171,Tryz.ntmps171
 go_wp2_with fail
 refine HM.out.mono ?_
 rintro e w1 ⟨A2,c2,rfl,hg,F,hF,_⟩
 have hga:=(Keep.refl NoB w1).alloc (.cells #[.int .u64 session,.slice A2 (szs a).length c2,.int .u32 (sumP session a:Nat)] 40)
 have hca:=heap_alloc_new w1 (.cells #[.int .u64 session,.slice A2 (szs a).length c2,.int .u32 (sumP session a:Nat)] 40)
 obtain ⟨n0,n1,n2,nf⟩:=zI hca
 have hc1:=Grow.heap (hg.grow hga) HC.out
 clear m0 m1 m2 mf
 obtain ⟨m0,m1,m2,mf⟩:=zI hc1
 have hms:=(zjG session session sum (sumP session a) A1 A2 c1 c2 l (szs a) hl9 _ (HS.out.grow (hg.grow hga)) (hF.grow hga).now)
 rw [show decide (session=session∧sum=sumP session a∧l=szs a)=decide (sum=sumP session a∧l=szs a) from by simp] at hms
 obtain ⟨b,hb⟩:∃ b,decide (sum=sumP session a∧l=szs a)=b:=⟨_,rfl⟩
 rw [hb] at hms
 have HB:=LH hb
 have HE:=LH hms
 clear hms hb
 replace HG:=LH (HG.out.grow (hg.grow hga))
 clear hg hga hca hc1 hF
 go_wp2_with fail
 refine HE.out.mono ?_
 rintro e w2 ⟨rfl,hg⟩
 have HG2:=LH (HG.out.grow hg)
 clear hg
 go_wp2
 go_ret
 exact ⟨by rw [HB.out];rfl,HG2.out⟩
theorem zH {w:World} {g T:Nat} {a0 a1 a2 a3 a4 a5 a6 a7 a8 a9 a10 a11 a12 a13 a14 a15 a16 a17 a18 a19 a20:Value} (h:w.heap[g]? = some (.cells #[a0,a1,a2,a3,a4,a5,a6,a7,a8,a9,a10,a11,a12,a13,a14,a15,a16,a17,a18,a19,a20] T (0,0))):w.cell? ⟨g,0,none⟩=some a0∧w.cell? ⟨g,1,none⟩=some a1∧w.cell? ⟨g,2,none⟩=some a2∧w.cell? ⟨g,3,none⟩=some a3∧w.cell? ⟨g,4,none⟩=some a4∧w.cell? ⟨g,5,none⟩=some a5∧w.cell? ⟨g,6,none⟩=some a6∧w.cell? ⟨g,7,none⟩=some a7∧w.cell? ⟨g,8,none⟩=some a8∧w.cell? ⟨g,9,none⟩=some a9∧w.cell? ⟨g,10,none⟩=some a10∧w.cell? ⟨g,11,none⟩=some a11∧w.cell? ⟨g,12,none⟩=some a12∧w.cell? ⟨g,13,none⟩=some a13∧w.cell? ⟨g,14,none⟩=some a14∧w.cell? ⟨g,15,none⟩=some a15∧w.cell? ⟨g,16,none⟩=some a16∧w.cell? ⟨g,17,none⟩=some a17∧w.cell? ⟨g,18,none⟩=some a18∧w.cell? ⟨g,19,none⟩=some a19∧w.cell? ⟨g,20,none⟩=some a20∧∀ o,w.frozen? ⟨g,o,none⟩=false :=
 ⟨World.news_of_block h 0 _ rfl,World.news_of_block h 1 _ rfl,World.news_of_block h 2 _ rfl,World.news_of_block h 3 _ rfl,World.news_of_block h 4 _ rfl,World.news_of_block h 5 _ rfl,World.news_of_block h 6 _ rfl,World.news_of_block h 7 _ rfl,World.news_of_block h 8 _ rfl,World.news_of_block h 9 _ rfl,World.news_of_block h 10 _ rfl,World.news_of_block h 11 _ rfl,World.news_of_block h 12 _ rfl,World.news_of_block h 13 _ rfl,World.news_of_block h 14 _ rfl,World.news_of_block h 15 _ rfl,World.news_of_block h 16 _ rfl,World.news_of_block h 17 _ rfl,World.news_of_block h 18 _ rfl,World.news_of_block h 19 _ rfl,World.news_of_block h 20 _ rfl,fun o=>zM o h⟩
structure Sl where
 A:Option Addr
 n:Nat
 c:Nat
def Sl.v (s:Sl):Value:=.slice s.A s.n s.c
structure RC where
 part:Option Addr
 win:Int
 back:Int
 retry:Int
 quota:Int
 st:Nat
 phase:Int
 err:Int
 session:Int
 sum:Nat
 of:Int
 h0:Bool
 h1:Bool
 h2:Bool
 h3:Bool
 z0:Sl
 z1:Sl
 z2:Sl
 z3:Sl
 resumed:Bool
 closed:Bool
def RC.cs (d:RC):Array Value:=#[.pointer d.part,.int .i64 d.win,.int .i64 d.back,.int .i64 d.retry,.int .i64 d.quota,.pointer (some ⟨d.st,0,none⟩),.int .i64 d.phase,.int .u16 d.err,.int .u64 d.session,.int .u32 (d.sum:Nat),.int .i64 d.of,.bool d.h0,.bool d.h1,.bool d.h2,.bool d.h3,.slice d.z0.A d.z0.n d.z0.c,.slice d.z1.A d.z1.n d.z1.c,.slice d.z2.A d.z2.n d.z2.c,.slice d.z3.A d.z3.n d.z3.c,.bool d.resumed,.bool d.closed]
def RCell (g:Nat) (d:RC) (w:World):Prop:=w.heap[g]? = some (.cells d.cs 173 (0,0))
theorem RCell.keep {g:Nat} {d:RC} {w w':World} {S:Nat→Prop} (h:RCell g d w) (hk:Keep S w w') (hg:¬ S g):RCell g d w':=(hk.block g (gE h).1 hg).trans h
theorem RCell.grow {g:Nat} {d:RC} {w w':World} (h:RCell g d w) (hk:Grow w w'):RCell g d w':=h.keep hk (fun h=>h)
theorem RCell.lt {g:Nat} {d:RC} {w:World} (h:RCell g d w):g<w.heap.size:=(gE h).1
theorem RCell.put {g:Nat} {d d':RC} {w:World} (h:RCell g d w) (i:Nat) (v:Value) (hd:d.cs.setIfInBounds i v=d'.cs):RCell g d' (w.setCell ⟨g,i,none⟩ v)∧Keep (fun k=>k=g) w (w.setCell ⟨g,i,none⟩ v):=by
 refine ⟨?_,(Keep.refl (fun k=>k=g) w).setCell (p:=⟨g,i,none⟩) (.inl rfl) _⟩
 unfold RCell at *
 simp only [World.setCell,Array.getElem?_modify]
 simp [h,hd]
end Go.Proofs.YtfkcpaahdlkcdaaGreat
namespace Go.Proofs.YtfkcpaahdlkcdaaGreat
open Go.RowKit
def RC.fail (d:RC) (e:Int):RC:=⟨none,d.win,d.back,d.retry,d.quota,d.st,3,e,d.session,d.sum,0,false,false,false,false,⟨none,0,0⟩,⟨none,0,0⟩,⟨none,0,0⟩,⟨none,0,0⟩,false,false⟩
theorem Keep.setRow {S:Nat→Prop} {a b:World} (h:Keep S a b) {r:Nat} (hr:S r∨a.heap.size≤r) (cs:Array Value):Keep S a (b.setRow r cs) :=
 ⟨h.os,h.tape,h.output,by simpa [World.setRow] using h.size,fun i hi hS=>by
  show (b.heap.modify r _)[i]? = _
  rw [Array.getElem?_modify,if_neg (by intro e;subst e;rcases hr with hr | hr;exact hS hr;omega)]
  exact h.block i hi hS⟩
section
variable {P:Program} {ops:Array Oper} {Q:Exit→Act→World→Prop} {ds:List Nat} {S:Nat→Prop} {R:Act→World→Prop} {acts reads rest:List Nat} {a:Act} {w:World} {i:Nat} {o:Oper}
theorem zzK (hl:ops.toList[i]? = some o) (ha:acts.contains i=true) (hN:o.dst=none) (hg:o.guard=none) (ty:TypeId) (x y:Operand) (hop:o.op=Op.store ty x y) (g:Nat) (cells:Array Value) (hx:a.eval x=.pointer (some ⟨g,0,none⟩)) (hy:a.eval y=.agg cells)
    (t:TypeId) (old:Array Value) (hgc:w.heap[g]? = some (.cells old t (0,0))) (hi:(P.info? ty).map (·.size)=some cells.size) (hold:old.size=cells.size) (h1:cells.all (·.oneCell')=true)
    (hk:i∉ds→Keep S w (w.setRow g cells)) (h:wpOrdC S P ops Q R acts reads ds rest a (w.setRow g cells)):wpOrdC S P ops Q R acts reads ds (i :: rest) a w:=by
 refine zrA hl ha (fun K hK=>?_)
 rw [if_pos (by simp [Region.wanted,hg])]
 refine wp_store_row ty x y hop g cells hx hy t old hgc hi hold h1 ?_
 rw [hN]
 exact hK _ _ ⟨hk,h⟩
end
theorem zwI:(Tryz.prog.info? 173).map (·.size)=some 21:=by kernel_rfl
theorem RC.cs_all (d:RC):d.cs.all (·.oneCell')=true:=by simp [RC.cs,Value.oneCell']
theorem RCell.row {g:Nat} {d:RC} {w:World} (h:RCell g d w) (d':RC):RCell g d' (w.setRow g d'.cs)∧Keep (fun k=>k=g) w (w.setRow g d'.cs) :=
 ⟨setRow_heap w g d.cs d'.cs _ _ h,(Keep.refl (fun k=>k=g) w).setRow (.inl rfl) _⟩
theorem zDC {g:Nat} {d:RC} {w:World} (h:RCell g d w) (e:Int) :
    Calls Tryz.prog 172 #[.pointer (some ⟨g,0,none⟩),.int .u16 e] w fun ee w'=>(∃ v,ee=.returned v)∧RCell g (d.fail e) w'∧Keep (fun k=>k=g) w w':=by
 obtain ⟨c0,c1,c2,c3,c4,c5,c6,c7,c8,c9,c10,c11,c12,c13,c14,c15,c16,c17,c18,c19,c20,cf⟩:=zH h
 have HE:=LH h
 clear h
 go_enter Tryz.func172,Tryz.ntmps172
 go_wp2
 refine zD [0,1,2,3,4,5,6,7,8,9,10,11,12,13,14,15,16,17,18,19,20] [20] [4,8,13,17] [20] rfl (by kernel_rfl) ?_
 iterate 4
  refine ord_p ?_
 refine ord_r (y:=by intro w' hg;have q1:=hg.cell c1 (fun h=>h);have q2:=hg.cell c2 (fun h=>h);have q3:=hg.cell c3 (fun h=>h);have q4:=hg.cell c4 (fun h=>h);go_simp;with_reducible rfl) (z:=?_)
 iterate 3
  refine ord_p ?_
 refine ord_r (y:=by intro w' hg;have q:=hg.cell c5 (fun h=>h);go_simp;with_reducible rfl) (z:=?_)
 iterate 4
  refine ord_p ?_
 refine ord_r (y:=by intro w' hg;have q:=hg.cell c8 (fun h=>h);go_simp;with_reducible rfl) (z:=?_)
 iterate 3
  refine ord_p ?_
 refine ord_r (y:=by intro w' hg;have q:=hg.cell c9 (fun h=>h);go_simp;with_reducible rfl) (z:=?_)
 iterate 2
  refine ord_p ?_
 refine zzK rfl rfl rfl rfl _ _ _ rfl g (d.fail e).cs rfl rfl _ d.cs HE.out zwI rfl (RC.cs_all _) (fun h=>absurd (by simp) h) ?_
 refine zF ?_
 have hr:=RCell.row (w:=w.drew) HE.out (d.fail e)
 have hk:=(Keep.refl (fun k=>k=g) w).drew.trans hr.2 (fun k hk=>.inl hk)
 have HR:=LH hr.1
 have HK:=LH hk
 clear hr hk c0 c1 c2 c3 c4 c5 c6 c7 c8 c9 c10 c11 c12 c13 c14 c15 c16 c17 c18 c19 c20 cf
 generalize w.drew.setRow g (d.fail e).cs=w9 at HR HK ⊢
 go_wp2
 go_end0
 exact ⟨⟨_,rfl⟩,HR.out,HK.out⟩
theorem zWD {g:Nat} {d:RC} {w:World} (h:RCell g d w) (kind index:Int) :
    Calls Tryz.prog 124 #[.pointer (some ⟨g,0,none⟩),.int .i64 kind,.int .i64 index] w fun e w'=>e=.returned (.agg #[.int .i64 kind,.int .u64 d.session,.int .i64 index,.int .i64 0,.int .u32 (d.sum:Nat),.slice none 0 0,.slice none 0 0])∧Grow w w':=by
 have HG:=LH ((Keep.refl NoB w).alloc (.cells #[.int .i64 0,.int .u64 0,.int .i64 0,.int .i64 0,.int .u32 0,.slice none 0 0,.slice none 0 0] 46))
 have H:=LH (h.grow HG.out)
 have HC:=LH (heap_alloc_new w (.cells #[.int .i64 0,.int .u64 0,.int .i64 0,.int .i64 0,.int .u32 0,.slice none 0 0,.slice none 0 0] 46))
 clear h
 go_enter Tryz.func124,Tryz.ntmps124
 go_wp2
 generalize w.alloc (.cells #[.int .i64 0,.int .u64 0,.int .i64 0,.int .i64 0,.int .u32 0,.slice none 0 0,.slice none 0 0] 46)=w1 at HG H HC ⊢
 obtain ⟨c0,c1,c2,c3,c4,c5,c6,c7,c8,c9,c10,c11,c12,c13,c14,c15,c16,c17,c18,c19,c20,cf⟩:=zH H.out
 obtain ⟨z0,z1,z2,z3,z4,z5,z6,zf⟩:=zC HC.out
 refine zD [0,1,2,3,4,5,6,7,8,9,10,11] [11] [4,8] [11] rfl (by kernel_rfl) ?_
 iterate 4
  refine ord_p ?_
 refine ord_r (y:=by intro w' hg;have q:=hg.cell c8 (fun h=>h);go_simp;with_reducible rfl) (z:=?_)
 iterate 3
  refine ord_p ?_
 refine ord_r (y:=by intro w' hg;have q:=hg.cell c9 (fun h=>h);go_simp;with_reducible rfl) (z:=?_)
 iterate 2
  refine ord_p ?_
 refine zK rfl rfl rfl rfl ?_ ?_ (fun h=>absurd (by simp) h) ?_
 rotate_left
 ·go_simp;with_reducible rfl
 refine zF ?_
 have HS:=LH (zh (.int .i64 kind) (.int .u64 d.session) (.int .i64 index) (.int .i64 0) (.int .u32 (d.sum:Nat)) (.slice none 0 0) (.slice none 0 0) HG.out (Nat.le_refl _) HC.out)
 obtain ⟨W2,hW2⟩:∃ W2,(((((((w1.setCell ⟨w.heap.size,0,none⟩ (.int .i64 kind)).setCell ⟨w.heap.size,1,none⟩ (.int .u64 d.session)).setCell ⟨w.heap.size,2,none⟩ (.int .i64 index)).setCell ⟨w.heap.size,3,none⟩ (.int .i64 0)).setCell ⟨w.heap.size,4,none⟩ (.int .u32 (d.sum:Nat))).setCell ⟨w.heap.size,5,none⟩ (.slice none 0 0)).setCell ⟨w.heap.size,6,none⟩ (.slice none 0 0))=W2:=⟨_,rfl⟩
 rw [hW2] at HS ⊢
 clear hW2 c0 c1 c2 c3 c4 c5 c6 c7 c8 c9 c10 c11 c12 c13 c14 c15 c16 c17 c18 c19 c20 cf z0 z1 z2 z3 z4 z5 z6 zf
 obtain ⟨z0,z1,z2,z3,z4,z5,z6,zf⟩:=zC HS.out.1
 go_wp2
 refine bodyPost_ret (v:=.agg #[.int .i64 kind,.int .u64 d.session,.int .i64 index,.int .i64 0,.int .u32 (d.sum:Nat),.slice none 0 0,.slice none 0 0]) ?_ rfl ⟨rfl,HS.out.2.drew⟩
 rw [zT rfl];go_simp
theorem zCB {g:Nat} {d:RC} {w:World} (h:RCell g d w) (k s i o:Int) (m:Nat) (A1 A2:Option Addr) (n1 c1' n2 c2':Nat) :
    Calls Tryz.prog 177 #[.pointer (some ⟨g,0,none⟩),.agg #[.int .i64 k,.int .u64 s,.int .i64 i,.int .i64 o,.int .u32 (m:Nat),.slice A1 n1 c1',.slice A2 n2 c2']] w fun e w'=>e=.returned (.bool (decide (s=d.session∧m=d.sum)))∧Grow w w':=by
 have hg0:=(Keep.refl NoB w).alloc (.cells #[.int .i64 k,.int .u64 s,.int .i64 i,.int .i64 o,.int .u32 (m:Nat),.slice A1 n1 c1',.slice A2 n2 c2'] 46)
 have hz:=heap_alloc_new w (.cells #[.int .i64 k,.int .u64 s,.int .i64 i,.int .i64 o,.int .u32 (m:Nat),.slice A1 n1 c1',.slice A2 n2 c2'] 46)
 obtain ⟨c0,c1,c2,c3,c4,c5,c6,c7,c8,c9,c10,c11,c12,c13,c14,c15,c16,c17,c18,c19,c20,cf⟩:=zH (h.grow hg0)
 obtain ⟨z0,z1,z2,z3,z4,z5,z6,zf⟩:=zC hz
 have HG:=LH hg0
 clear h hg0 hz
 go_enter Tryz.func177,Tryz.ntmps177
 go_wp2
 by_cases hs:s=d.session
 case neg =>
  have hsb:(s==d.session)=false:=by simp [hs]
  have HN:Hid (decide (s=d.session∧m=d.sum)=false):=LH (decide_eq_false (fun h=>hs h.1))
  clear hs
  refine zD [0,1,2,3,4,5,6,7,8,9,10,11,12,13,14,15,16] [16] [1,5,9,13] [] rfl (by kernel_rfl) ?_
  refine ord_p ?_
  refine ord_r (y:=by intro w' hg;have q:=hg.cell z1 (fun h=>h);go_simp;with_reducible rfl) (z:=?_)
  iterate 3
   refine ord_p ?_
  refine ord_r (y:=by intro w' hg;have q:=hg.cell c8 (fun h=>h);go_simp;with_reducible rfl) (z:=?_)
  iterate 2
   refine ord_p ?_
  iterate 7
   refine zGB rfl rfl rfl rfl (fun _ _ _ _ h=>h) ?_ ?_ ?_
   rotate_left 1
   ·simp only [Act.put,pB,pC,pD];rfl
  refine ord_p ?_
  refine ord_s ?_
  refine zF ?_
  go_wp2
  go_ret
  exact ⟨by rw [HN.out];rfl,HG.out.drew⟩
 have hsb:(s==d.session)=true:=by simp [hs]
 obtain ⟨b,hb⟩:∃ b,decide (s=d.session∧m=d.sum)=b:=⟨_,rfl⟩
 have hmb:(((m:Nat):Int)==((d.sum:Nat):Int))=b:=by
  rw [← hb]
  by_cases hm:m=d.sum
  ·simp [hs,hm]
  ·rw [decide_eq_false (fun h=>hm h.2),beq_eq_false_iff_ne]
   omega
 have HB:=LH hb
 clear hs hb
 refine zD [0,1,2,3,4,5,6,7,8,9,10,11,12,13,14,15,16] [16] [1,5,9,13] [] rfl (by kernel_rfl) ?_
 refine ord_p ?_
 refine ord_r (y:=by intro w' hg;have q:=hg.cell z1 (fun h=>h);go_simp;with_reducible rfl) (z:=?_)
 iterate 3
  refine ord_p ?_
 refine ord_r (y:=by intro w' hg;have q:=hg.cell c8 (fun h=>h);go_simp;with_reducible rfl) (z:=?_)
 iterate 2
  refine ord_p ?_
 refine zS ?_
 refine zY (y:=by intro w' hg;have q:=hg.cell z4 (fun h=>h);go_simp;with_reducible rfl) (z:=?_)
 iterate 3
  refine zS ?_
 refine zY (y:=by intro w' hg;have q:=hg.cell c9 (fun h=>h);go_simp;with_reducible rfl) (z:=?_)
 refine zS ?_
 refine ord_p ?_
 refine ord_s ?_
 refine zF ?_
 go_wp2
 go_ret
 exact ⟨by rw [HB.out];rfl,HG.out.drew⟩
end Go.Proofs.YtfkcpaahdlkcdaaGreat
namespace Go.Proofs.YtfkcpaahdlkcdaaGreat
open Go.RowKit
theorem zoH {ws sz:List Int} (hnn:∀ x∈sz,0≤x) (hl:(ws.length:Int)=sz.sum):szs (arenaW ws sz)=sz:=by
 apply List.ext_getElem (by rw [zi,zTA])
 intro k h1 h2
 have h3:=zyC hnn hl k h2
 have h4:=hnn _ (List.getElem_mem h2)
 simp only [szs,arenaW,List.getElem_map,List.getElem_range]
 omega
theorem zXD {ws sz:List Int} (hnn:∀ x∈sz,0≤x):∀ k,k≤sz.length→((arenaW ws sz).take k).flatten=ws.take (offN sz k)
 | 0,_=>by simp [offN]
 | k+1,h=>by
  rw [zVD ws sz k (by omega),List.flatten_append,zXD hnn k (by omega),zxC hnn k (by omega),List.take_add]
  congr 1
  have e:sz.getD k 0=sz[k]'(by omega):=by simp [List.getD_eq_getElem?_getD,show k<sz.length by omega]
  rw [rowAt,e]
  simp
theorem zTE {ws sz:List Int} (hnn:∀ x∈sz,0≤x) (hl:(ws.length:Int)=sz.sum):(arenaW ws sz).flatten=ws:=by
 have h:=zXD (ws:=ws) hnn sz.length (Nat.le_refl _)
 rw [List.take_of_length_le (by rw [zTA];omega)] at h
 rw [h]
 refine List.take_of_length_le ?_
 unfold offN
 rw [List.take_length]
 omega
theorem zxI {ws sz:List Int} (hf:fitsB sz=true) (hl:(ws.length:Int)=sz.sum) (hw:∀ x∈ws,0≤x∧x≤18446744073709551615):OkA (arenaW ws sz):=by
 obtain ⟨h1,h2,h3,h4⟩:=zN hf
 refine ⟨by rw [zTA];omega,fun s hs=>?_,fun s hs x hx=>?_⟩
 ·obtain ⟨k,hk,rfl⟩:=List.mem_map.1 hs
  unfold rowAt
  rw [List.length_take,List.length_drop]
  omega
 ·obtain ⟨k,hk,rfl⟩:=List.mem_map.1 hs
  exact hw x (List.mem_of_mem_drop (List.mem_of_mem_take hx))
theorem OkP.arena {d:Par} (h:OkP d):OkA (arenaW d.words d.sz)∧szs (arenaW d.words d.sz)=d.sz∧(arenaW d.words d.sz).flatten=d.words :=
 ⟨zxI h.fit h.wlen h.win,zoH (zN h.fit).2.2.1 h.wlen,zTE (zN h.fit).2.2.1 h.wlen⟩
section
variable {P:Program} {ops:Array Oper} {Q:Exit→Act→World→Prop} {ds:List Nat} {S:Nat→Prop} {R:Act→World→Prop} {acts reads rest:List Nat} {a:Act} {w:World} {i:Nat} {o:Oper}
theorem zKH (hl:ops.toList[i]? = some o) (ha:acts.contains i=true) (hg:Region.wanted o (yielded ops a.tmps)=false) (a':Act) (ha':a.put o.dst undef=a') (h:wpOrdC S P ops Q R acts reads ds rest a' w):wpOrdC S P ops Q R acts reads ds (i :: rest) a w:=by
 refine zrA hl ha (fun K hK=>?_)
 rw [if_neg (by rw [hg];simp),ha']
 exact hK _ _ ⟨fun _=>Keep.refl _ _,h⟩
end
theorem zkE {g b:Nat} {rc:RC} {p:PP} {d:Par} {G:Nat→Prop} {w:World} (h:RCell g rc w) (hp:rc.part=some ⟨b,0,none⟩) (hP:PAt b p d G w) (hno:popB d.known<chunksN d.sz) :
    Calls Tryz.prog 107 #[.pointer (some ⟨g,0,none⟩)] w fun e w'=>(∃ v,e=.returned v)∧Grow w w':=by
 obtain ⟨c0,c1,c2,c3,c4,c5,c6,c7,c8,c9,c10,c11,c12,c13,c14,c15,c16,c17,c18,c19,c20,cf⟩:=zH h
 rw [hp] at c0
 have HW:=LH (zvI hP hno)
 clear h hP hno
 go_enter Tryz.func107,Tryz.ntmps107
 go_wp2_with fail
 refine HW.out.mono ?_
 rintro e w1 ⟨rfl,hg⟩
 go_wp2
 refine bodyPost_ret (results_none rfl _ _ _) rfl ?_
 exact ⟨⟨_,rfl⟩,hg⟩
def RC.ended (rc:RC) (d:Par):RC :=
 if d.sum=sumP d.session (arenaW d.words d.sz) then (if checkP (arenaW d.words d.sz)=0 then { rc with phase:=2 } else rc.fail (checkP (arenaW d.words d.sz))) else rc.fail 12
theorem zzD {g b:Nat} {rc:RC} {p:PP} {d:Par} {G:Nat→Prop} {w:World} (h:RCell g rc w) (hp:rc.part=some ⟨b,0,none⟩) (hP:PAt b p d G w) (hall:chunksN d.sz≤popB d.known) :
    Calls Tryz.prog 107 #[.pointer (some ⟨g,0,none⟩)] w fun e w'=>(∃ v,e=.returned v)∧RCell g (rc.ended d) w'∧Keep (fun k=>k=g) w w':=by
 obtain ⟨c0,c1,c2,c3,c4,c5,c6,c7,c8,c9,c10,c11,c12,c13,c14,c15,c16,c17,c18,c19,c20,cf⟩:=zH h
 rw [hp] at c0
 have HW:=LH (zzC hP hall)
 have hok:=hP.ok.arena
 have HOK:=LH hP.ok
 have HAR:=LH hok
 have H:=LH h
 have HPP:=LH hp
 have HP:=LH hP
 have hlen:d.words.length≤4096:=by have:=zN hP.ok.fit;have:=hP.ok.wlen;omega
 have hsz:d.sz.length≤16:=(zN hP.ok.fit).2.1
 obtain ⟨a,ha⟩:∃ a,arenaW d.words d.sz=a:=⟨_,rfl⟩
 have HE:Hid (rc.ended d=if d.sum=sumP d.session a then (if checkP a=0 then { rc with phase:=2 } else rc.fail (checkP a)) else rc.fail 12):=LH (by unfold RC.ended;rw [ha])
 rw [ha] at HW HAR
 clear h hP hall hok ha
 go_enter Tryz.func107,Tryz.ntmps107
 go_wp2_with fail
 refine HW.out.mono ?_
 rintro e w1 ⟨Aa,ca,F,rfl,hg,hF,_⟩
 have HF:=LH hF
 have HG:=LH hg
 replace H:=LH (H.out.grow hg)
 replace HP:=LH (HP.out.grow hg)
 clear hg hF c0 c1 c2 c3 c4 c5 c6 c7 c8 c9 c10 c11 c12 c13 c14 c15 c16 c17 c18 c19 c20 cf
 obtain ⟨c0,c1,c2,c3,c4,c5,c6,c7,c8,c9,c10,c11,c12,c13,c14,c15,c16,c17,c18,c19,c20,cf⟩:=zH H.out
 rw [HPP.out] at c0
 go_wp2_with fail
 refine (zkA HP.out).mono ?_
 rintro e w2 ⟨Am,cm,rfl,hg,hom⟩
 have hmm:=zzF d.session HOK.out.s0 HOK.out.s1 d.sum Am cm d.sz (by omega) a HAR.out.1 (by rw [HAR.out.2.1];exact HOK.out.fit) (by rw [HAR.out.2.2];omega) Aa ca w2 (SliceR.of_own hom) (HF.out.grow hg).now
 have hdd:decide (d.sum=sumP d.session a∧d.sz=szs a)=decide (d.sum=sumP d.session a):=by
  have:=HAR.out.2.1
  simp [this]
 rw [hdd] at hmm
 have HM:=LH hmm
 replace HF:=LH (HF.out.grow hg)
 replace HG:=LH (HG.out.grow hg)
 replace H:=LH (H.out.grow hg)
 clear hg hom hmm hdd c0 c1 c2 c3 c4 c5 c6 c7 c8 c9 c10 c11 c12 c13 c14 c15 c16 c17 c18 c19 c20 cf
 by_cases hs:d.sum=sumP d.session a
 case neg =>
  rw [decide_eq_false hs] at HM
  replace HE:=LH (HE.out.trans (if_neg hs))
  clear hs
  go_wp2_with fail
  refine HM.out.mono ?_
  rintro e w3 ⟨rfl,hg⟩
  replace HG:=LH (HG.out.grow hg)
  replace H:=LH (H.out.grow hg)
  clear hg
  go_wp2_with fail
  refine (zDC H.out 12).mono ?_
  rintro e w4 ⟨⟨v,rfl⟩,hr,hk⟩
  have HN:=LH (And.intro hr ((HG.out.mono (T:=fun k=>k=g) (fun _ h=>h.elim)).trans hk (fun k hk=>.inl hk)))
  clear hr hk
  go_wp2
  refine bodyPost_ret (results_none rfl _ _ _) rfl ?_
  rw [HE.out]
  exact ⟨⟨_,rfl⟩,HN.out.1,HN.out.2⟩
 rw [decide_eq_true hs] at HM
 replace HE:=LH (HE.out.trans (if_pos hs))
 clear hs
 go_wp2_with fail
 refine HM.out.mono ?_
 rintro e w3 ⟨rfl,hg⟩
 replace HF:=LH (HF.out.grow hg)
 replace HG:=LH (HG.out.grow hg)
 replace H:=LH (H.out.grow hg)
 clear hg
 go_wp2_with fail
 refine (zaG a _ w3 HF.out.now HAR.out.1).mono ?_
 rintro e w4 ⟨rfl,hg⟩
 replace HG:=LH (HG.out.grow hg)
 replace H:=LH (H.out.grow hg)
 clear hg
 by_cases hc:checkP a=0
 case neg =>
  have hcb:(checkP a != 0)=true:=by simp [hc]
  replace HE:=LH (HE.out.trans (if_neg hc))
  clear hc
  go_wp2_with fail
  refine (zDC H.out (checkP a)).mono ?_
  rintro e w5 ⟨⟨v,rfl⟩,hr,hk⟩
  have HN:=LH (And.intro hr ((HG.out.mono (T:=fun k=>k=g) (fun _ h=>h.elim)).trans hk (fun k hk=>.inl hk)))
  clear hr hk
  go_wp2
  refine bodyPost_ret (results_none rfl _ _ _) rfl ?_
  rw [HE.out]
  exact ⟨⟨_,rfl⟩,HN.out.1,HN.out.2⟩
 have hcb:(checkP a != 0)=false:=by simp [hc]
 replace HE:=LH (HE.out.trans (if_pos hc))
 clear hc
 obtain ⟨c0,c1,c2,c3,c4,c5,c6,c7,c8,c9,c10,c11,c12,c13,c14,c15,c16,c17,c18,c19,c20,cf⟩:=zH H.out
 have hpt:=H.out.put (d':={ rc with phase:=2 }) 6 (.int .i64 2) rfl
 have HN:=LH (And.intro hpt.1 ((HG.out.mono (T:=fun k=>k=g) (fun _ h=>h.elim)).trans hpt.2 (fun k hk=>.inl hk)))
 clear hpt
 go_wp2
 go_end0
 rw [HE.out]
 exact ⟨⟨_,rfl⟩,HN.out.1,HN.out.2⟩
end Go.Proofs.YtfkcpaahdlkcdaaGreat
namespace Go.Proofs.YtfkcpaahdlkcdaaGreat
open Go.RowKit
theorem zIK:Tryz.prog.underlying 178=some (.map 3 23):=by kernel_rfl
theorem zLD:Tryz.prog.underlying 181=some (.slice 194):=by kernel_rfl
theorem zlE:(Tryz.prog.info? 194).map (fun i=>(i.zero,i.size,i.bytes))=some (some .nilFunc,1,8):=by kernel_rfl
def slR:Value→Option (DataW Unit×List MemPlace)
 | .slice (some ⟨b,0,none⟩) n c=>some (.agg [.lit (.int .u64 b),.lit (.int .u64 n),.lit (.int .u64 c)],[])
 | .slice none 0 0=>some (.nil,[])
 | _=>none
structure Ck where
 b:Nat
 c:Nat
 bs:List Int
def Ck.d (x:Ck):DataW Unit:=.agg [.lit (.int .u64 x.b),.lit (.int .u64 x.bs.length),.lit (.int .u64 x.c)]
def atF (f:Nat→Option Ck) (k:Int) (z:DataW Unit):DataW Unit:=if 0≤k then (match f k.toNat with | some x=>x.d | none=>z) else z
def KMap (m n:Nat) (f:Nat→Option Ck) (w:World):Prop:=∃ D:DataW Unit,w.ownsMap Tryz.prog 3 slR m n D∧∀ k,okI k→∀ z,D.atKey (.int .i64 k) z=atF f k z
theorem KMap.keep {S:Nat→Prop} {w w':World} {m n:Nat} {f:Nat→Option Ck} (h:KMap m n f w) (hk:Keep S w w') (hS:¬ S m):KMap m n f w':=by
 obtain ⟨D,⟨es,clock,hb,r⟩,h2⟩:=h
 exact ⟨D,⟨es,clock,(hk.block m (gE hb).1 hS).trans hb,r⟩,h2⟩
theorem KMap.lt {w:World} {m n:Nat} {f:Nat→Option Ck} (h:KMap m n f w):m<w.heap.size:=by
 obtain ⟨D,h1,_⟩:=h
 exact h1.lt
theorem KMap.made (w:World):KMap w.heap.size 0 (fun _=>none) (w.alloc (.map #[] 0)) :=
 ⟨.map [],World.ownsMap_made w _ _ _,fun k _ z=>by unfold atF;split <;> rfl⟩
structure KS where
 l0:Nat
 lt:Sl
 m:Nat
 nt:Sl
 lo:Sl
 n:Nat
 f:Nat→Option Ck
def KS.cs (k:KS):Array Value:=#[.map (some k.l0),.slice k.lt.A k.lt.n k.lt.c,.map (some k.m),.slice k.nt.A k.nt.n k.nt.c,.slice k.lo.A k.lo.n k.lo.c]
def KF (s:Nat) (k:KS):Nat→Prop:=fun j=>j=s∨j=k.m∨(Value.slice k.lo.A k.lo.n k.lo.c).ownBlock=some j
structure KAt (s:Nat) (k:KS) (G:Nat→Prop) (w:World):Prop where
 cell:w.heap[s]? = some (.cells k.cs 183 (0,0))
 map:KMap k.m k.n k.f w
 row:∃ fs,w.ownsRow 0 194 1 (.slice k.lo.A k.lo.n k.lo.c) k.lo.n fs
 ro:Foot (fun w=>∀ i x,k.f i=some x→SliceR 1 (.slice (some ⟨x.b,0,none⟩) x.bs.length x.c) x.bs.length (u8s x.bs) w) w G
 sm:s≠k.m
 so:(Value.slice k.lo.A k.lo.n k.lo.c).ownBlock≠some s
 mo:(Value.slice k.lo.A k.lo.n k.lo.c).ownBlock≠some k.m
 g:∀ j,G j→¬ KF s k j
theorem KAt.keep {s:Nat} {k:KS} {G S:Nat→Prop} {w w':World} (h:KAt s k G w) (hk:Keep S w w') (hF:∀ j,KF s k j→¬ S j) (hG:∀ j,G j→¬ S j):KAt s k G w':=by
 obtain ⟨fs,hr⟩:=h.row
 exact ⟨(hk.block s (gE h.cell).1 (hF s (.inl rfl))).trans h.cell,h.map.keep hk (hF _ (.inr (.inl rfl))),⟨fs,zE hr hk (fun j hj=>hF j (.inr (.inr hj)))⟩,h.ro.keep hk hG,h.sm,h.so,h.mo,h.g⟩
theorem KAt.grow {s:Nat} {k:KS} {G:Nat→Prop} {w w':World} (h:KAt s k G w) (hk:Grow w w'):KAt s k G w':=h.keep hk (fun _ _ h=>h) (fun _ _ h=>h)
theorem KAt.small {s:Nat} {k:KS} {G:Nat→Prop} {w:World} (h:KAt s k G w):∀ j,KF s k j→j<w.heap.size:=fun j hj=>by
 obtain ⟨fs,hr⟩:=h.row
 rcases hj with e | e | e
 ·rw [e];exact (gE h.cell).1
 ·rw [e];exact h.map.lt
 ·exact (hr.lt j e).2
theorem KAt.lt {s:Nat} {k:KS} {G:Nat→Prop} {w:World} (h:KAt s k G w):s<w.heap.size:=(gE h.cell).1
theorem zRC (w:World):Calls Tryz.prog 36 #[] w fun e w'=>∃ s k,e=.returned (.pointer (some ⟨s,0,none⟩))∧Grow w w'∧KAt s k NoB w'∧(∀ j,KF s k j→w.heap.size≤j)∧k.f=(fun _=>none)∧k.nt=⟨none,0,0⟩∧k.lo=⟨none,0,0⟩∧k.n=0:=by
 have hm:=@run_makeMap Tryz.prog
 go_enter Tryz.func36,Tryz.ntmps36
 go_wp2
 go_ret
 have hcell:=heap_alloc_new ((w.alloc (.map #[] 0)).alloc (.map #[] 0)) (.cells #[.map (some w.heap.size),.slice none 0 0,.map (some (w.alloc (.map #[] 0)).heap.size),.slice none 0 0,.slice none 0 0] 183)
 have hsz:((w.alloc (.map #[] 0)).alloc (.map #[] 0)).heap.size=w.heap.size+2:=by simp
 have hsz1:(w.alloc (.map #[] 0)).heap.size=w.heap.size+1:=by simp
 rw [hsz,hsz1] at hcell
 refine ⟨w.heap.size+2,⟨w.heap.size,⟨none,0,0⟩,w.heap.size+1,⟨none,0,0⟩,⟨none,0,0⟩,0,fun _=>none⟩,by rfl,(((Keep.refl NoB w).alloc _).alloc _).alloc _,⟨hcell,?_,⟨[],World.ownsRow_nil _ _ _ _⟩,⟨fun k hk=>hk.elim,fun W' _ i x h=>by cases h⟩,by simp,by simp [Value.ownBlock],by simp [Value.ownBlock],fun j hj=>hj.elim⟩,?_,rfl,rfl,rfl,rfl⟩
 ·have h1:=KMap.made (w.alloc (.map #[] 0))
  rw [hsz1] at h1
  exact h1.keep ((Keep.refl NoB _).alloc _) (fun h=>h)
 ·rintro j (h | h | h)
  ·rw [h];omega
  ·rw [h];simp
  ·simp [Value.ownBlock] at h
def KS.clear (k:KS) (m:Nat):KS:={ k with m:=m,n:=0,f:=fun _=>none,nt:=⟨none,0,0⟩ }
theorem KAt.cells {s:Nat} {k:KS} {G:Nat→Prop} {w:World} (h:KAt s k G w):w.cell? ⟨s,0,none⟩=some (.map (some k.l0))∧w.cell? ⟨s,1,none⟩=some (.slice k.lt.A k.lt.n k.lt.c)∧w.cell? ⟨s,2,none⟩=some (.map (some k.m))∧w.cell? ⟨s,3,none⟩=some (.slice k.nt.A k.nt.n k.nt.c)∧w.cell? ⟨s,4,none⟩=some (.slice k.lo.A k.lo.n k.lo.c)∧∀ o,w.frozen? ⟨s,o,none⟩=false :=
 ⟨World.news_of_block h.cell 0 _ rfl,World.news_of_block h.cell 1 _ rfl,World.news_of_block h.cell 2 _ rfl,World.news_of_block h.cell 3 _ rfl,World.news_of_block h.cell 4 _ rfl,fun o=>zM o h.cell⟩
theorem zLB {w:World} {g T:Nat} {cs:Array Value} (h:w.heap[g]? = some (.cells cs T (0,0))) (i:Nat) (v:Value):(w.setCell ⟨g,i,none⟩ v).heap[g]? = some (.cells (cs.setIfInBounds i v) T (0,0)):=by
 simp only [World.setCell,Array.getElem?_modify]
 simp [h]
theorem KAt.lob {s:Nat} {k:KS} {G:Nat→Prop} {w:World} (h:KAt s k G w):∀ j,(Value.slice k.lo.A k.lo.n k.lo.c).ownBlock=some j→j<w.heap.size:=fun j hj=>h.small j (.inr (.inr hj))
theorem zyE {s:Nat} {k:KS} {G:Nat→Prop} {w:World} (h:KAt s k G w):Calls Tryz.prog 219 #[.pointer (some ⟨s,2,none⟩)] w fun e w'=>(∃ v,e=.returned v)∧KAt s (k.clear w.heap.size) NoB w'∧Keep (fun j=>j=s) w w':=by
 have hm:=@run_makeMap Tryz.prog
 have H:=LH h
 obtain ⟨c0,c1,c2,c3,c4,cf⟩:=(h.grow ((Keep.refl NoB w).alloc (.map #[] 0))).cells
 clear h
 go_enter Tryz.func219,Tryz.ntmps219
 go_wp2
 go_end0
 have h:=H.out
 have ha:=h.grow ((Keep.refl NoB w).alloc (.map #[] 0))
 have e1:=zLB ha.cell 2 (.map (some w.heap.size))
 have e2:=zLB e1 3 (.slice none 0 0)
 have hk1:Keep (fun j=>j=s) w (((w.alloc (.map #[] 0)).setCell ⟨s,2,none⟩ (.map (some w.heap.size))).setCell ⟨s,3,none⟩ (.slice none 0 0)):=(((Keep.refl (fun j=>j=s) w).alloc _).setCell (p:=⟨s,2,none⟩) (.inl rfl) _).setCell (p:=⟨s,3,none⟩) (.inl rfl) _
 have hk2:Keep (fun j=>j=s) (w.alloc (.map #[] 0)) (((w.alloc (.map #[] 0)).setCell ⟨s,2,none⟩ (.map (some w.heap.size))).setCell ⟨s,3,none⟩ (.slice none 0 0)):=((Keep.refl (fun j=>j=s) _).setCell (p:=⟨s,2,none⟩) (.inl rfl) _).setCell (p:=⟨s,3,none⟩) (.inl rfl) _
 obtain ⟨fs,hr⟩:=h.row
 have hlt:=h.lt
 refine ⟨⟨_,rfl⟩,⟨e2,(KMap.made w).keep hk2 (by omega),⟨fs,zE hr hk1 (fun j hj e=>h.so (by subst e;exact hj))⟩,⟨fun k hk=>hk.elim,fun W' _ i x h=>by cases h⟩,by show s≠w.heap.size;omega,h.so,fun e=>?_,fun j hj=>hj.elim⟩,hk1⟩
 have:=h.lob _ e
 simp [KS.clear] at this
def KS.step (k:KS) (A:Option Addr) (c:Nat):KS:={ k with lo:=⟨A,k.lo.n+1,c⟩ }
theorem KAt.stepped {s:Nat} {k:KS} {G:Nat→Prop} {w w':World} {A:Option Addr} {c:Nat} {fs:List Value} (h:KAt s k G w) (hap:Apped 0 194 1 (.slice k.lo.A k.lo.n k.lo.c) (.slice A (k.lo.n+1) c) (k.lo.n+1) fs w w' (Value.slice k.lo.A k.lo.n k.lo.c=.slice none 0 0∧1=0)):KAt s (k.step A c) G (w'.setCell ⟨s,4,none⟩ (.slice A (k.lo.n+1) c))∧Keep (fun j=>j=s∨(Value.slice k.lo.A k.lo.n k.lo.c).ownBlock=some j) w (w'.setCell ⟨s,4,none⟩ (.slice A (k.lo.n+1) c)):=by
 have hk0:=hap.grew
 have hkp:Keep (fun j=>(Value.slice k.lo.A k.lo.n k.lo.c).ownBlock=some j) w w':=(Keep.refl _ w).grown hk0 (fun j hj=>.inl hj)
 have hk1:Keep (fun j=>j=s∨(Value.slice k.lo.A k.lo.n k.lo.c).ownBlock=some j) w (w'.setCell ⟨s,4,none⟩ (.slice A (k.lo.n+1) c)):=(hkp.mono (fun _ h=>.inr h)).setCell (p:=⟨s,4,none⟩) (.inl (.inl rfl)) _
 have hs:w'.heap[s]? = _:=(hkp.block s h.lt h.so).trans h.cell
 have hm:¬ (k.m=s∨(Value.slice k.lo.A k.lo.n k.lo.c).ownBlock=some k.m):=fun e=>e.elim (fun e=>h.sm e.symm) h.mo
 have hml:=h.map.lt
 have hlt:=h.lt
 have hne:∀ j,(Value.slice A (k.lo.n+1) c).ownBlock=some j→j≠s∧j≠k.m:=fun j hj=>by
  rcases zo hap j hj with e | e
  ·exact ⟨fun e2=>h.so (by rw [e,e2]),fun e2=>h.mo (by rw [e,e2])⟩
  ·omega
 refine ⟨⟨zLB hs 4 _,h.map.keep hk1 hm,⟨fs,zE hap.own ((Keep.refl (fun j=>j=s) w').setCell (p:=⟨s,4,none⟩) (.inl rfl) _) (fun j hj e=>(hne j hj).1 e)⟩,h.ro.keep hk1 (fun j hj e=>h.g j hj (e.elim .inl (fun e=>.inr (.inr e)))),h.sm,fun e=>(hne _ e).1 rfl,fun e=>(hne _ e).2 rfl,fun j hj e=>?_⟩,hk1⟩
 rcases e with e | e | e
 ·exact h.g j hj (.inl e)
 ·exact h.g j hj (.inr (.inl e))
 ·rcases zo hap j e with e | e
  ·exact h.g j hj (.inr (.inr e))
  ·have:=h.ro.lt hj
   omega
theorem zyI {s:Nat} {k:KS} {G:Nat→Prop} {w:World} (h:KAt s k G w) (hn:k.lo.n≤4096):Calls Tryz.prog 187 #[.pointer (some ⟨s,0,none⟩),.func (.func 219) #[] #[]] w fun e w'=>(∃ v,e=.returned v)∧∃ A c m,KAt s ((k.clear m).step A c) NoB w'∧Keep (fun j=>j=s∨(Value.slice k.lo.A k.lo.n k.lo.c).ownBlock=some j) w w'∧w.heap.size≤m∧∀ j,(Value.slice A (k.lo.n+1) c).ownBlock=some j→(Value.slice k.lo.A k.lo.n k.lo.c).ownBlock=some j∨w.heap.size≤j:=by
 have H:=LH h
 clear h
 go_enter Tryz.func187,Tryz.ntmps187
 go_wp2_with fail
 refine (zyE H.out).mono ?_
 rintro e w1 ⟨⟨v,rfl⟩,h1,hk⟩
 have HK:=LH hk
 have H1:=LH h1
 clear hk h1
 obtain ⟨c0,c1,c2,c3,c4,cf⟩:=H1.out.cells
 have hlo:(k.clear w.heap.size).lo=k.lo:=rfl
 rw [hlo] at c4
 clear hlo
 obtain ⟨fs,hr⟩:=H1.out.row
 have HR:=LH hr
 clear hr
 go_wp2_with (at_builtin;refine zL _ rfl _ _ 181 181 rfl 0 194 .nilFunc 1 8 zLD zlE rfl (.slice k.lo.A k.lo.n k.lo.c) k.lo.n fs rfl (.slice (some ⟨w1.heap.size,0,none⟩) 1 1) 1 [.func (.func 219) #[] #[]] rfl ?_ (by exact zE HR.out ((Keep.refl NoB w1).alloc _) (fun _ _ h=>h)) (by exact Src.ofSlice _ zLD ⟨w1.heap.size,0,none⟩ 1 1 _ rfl (World.news_of_block (cs:=#[.func (.func 219) #[] #[]]) (t:=194) (fr:=(0,0)) (heap_alloc_new w1 _)) (by simp [Value.oneCell'])) (by simp only [maxLen];omega) (by omega) (by exact Nat.zero_le _);intro v2 w2 hap;refine Hid.out ?_)
 refine LH ?_
 obtain ⟨A2,c2',rfl,_⟩:=zJ hap.own
 have hg:=(Keep.refl NoB w1).alloc (.cells #[.func (.func 219) #[] #[]] 194)
 have hst:=(H1.out.grow hg).stepped hap
 have hof:∀ j,(Value.slice A2 (k.lo.n+1) c2').ownBlock=some j→(Value.slice k.lo.A k.lo.n k.lo.c).ownBlock=some j∨w.heap.size≤j:=fun j hj=>(zo hap j hj).imp id (fun e=>by have:=HK.out.size;simp at e;omega)
 have hkk:=(HK.out.mono (T:=fun j=>j=s∨(Value.slice k.lo.A k.lo.n k.lo.c).ownBlock=some j) (fun _ h=>.inl h)).trans ((hg.mono (T:=fun j=>j=s∨(Value.slice k.lo.A k.lo.n k.lo.c).ownBlock=some j) (fun _ h=>h.elim)).trans hst.2 (fun j hj=>.inl hj)) (fun j hj=>.inl hj)
 have HST:=LH hst.1
 have HKK:=LH hkk
 have HOF:=LH hof
 have hcw:w2.cell? ⟨s,4,none⟩=some (.slice k.lo.A k.lo.n k.lo.c)∧∀ o,w2.frozen? ⟨s,o,none⟩=false:=by
  have hh:w2.heap[s]? = _:=(((Keep.refl _ _).grown hap.grew (fun j hj=>.inl hj):Keep (fun j=>(Value.slice k.lo.A k.lo.n k.lo.c).ownBlock=some j) _ _).block s (H1.out.grow hg).lt H1.out.so).trans (H1.out.grow hg).cell
  exact ⟨World.news_of_block hh 4 _ rfl,fun o=>zM o hh⟩
 clear hst hkk hof hap hg c0 c1 c2 c3 c4 cf
 obtain ⟨c4,cf⟩:=hcw
 go_wp2
 go_end0
 exact ⟨⟨_,rfl⟩,A2,c2',_,HST.out,HKK.out,Nat.le_refl _,HOF.out⟩
theorem zAD {s:Nat} {k:KS} {G:Nat→Prop} {w:World} (h:KAt s k G w) (hn:k.lo.n≤4096):Calls Tryz.prog 165 #[.pointer (some ⟨s,0,none⟩)] w fun e w'=>(∃ v,e=.returned v)∧∃ A c m,KAt s ((k.clear m).step A c) NoB w'∧Keep (fun j=>j=s∨(Value.slice k.lo.A k.lo.n k.lo.c).ownBlock=some j) w w'∧w.heap.size≤m∧∀ j,(Value.slice A (k.lo.n+1) c).ownBlock=some j→(Value.slice k.lo.A k.lo.n k.lo.c).ownBlock=some j∨w.heap.size≤j:=by
 have H:=LH h
 clear h
 go_enter Tryz.func165,Tryz.ntmps165
 go_wp2_with fail
 refine (zyI H.out hn).mono ?_
 rintro e w1 ⟨⟨v,rfl⟩,h1⟩
 have H1:=LH h1
 clear h1
 go_wp2
 go_end0
 exact ⟨⟨_,rfl⟩,H1.out⟩
theorem zmE {i:Nat} (hi:i<512):okI (i:Int):=by
 have h1:IntKind.i64.min = -9223372036854775808:=rfl
 have h2:IntKind.i64.max=9223372036854775807:=rfl
 simp only [okI,Lit.wf,h1,h2,Bool.and_eq_true,decide_eq_true_eq]
 omega
def KS.put (k:KS) (i:Nat) (x:Ck):KS:={ k with n:=k.n+1,f:=fun j=>if j=i then some x else k.f j }
theorem KMap.putD {m n:Nat} {f:Nat→Option Ck} {w w':World} {D:DataW Unit} (hD:∀ k,okI k→∀ z,D.atKey (.int .i64 k) z=atF f k z) (ho:w.ownsMap Tryz.prog 3 slR m n D) (i:Nat) (hi:i<512) (x:Ck) (h':w'.ownsMap Tryz.prog 3 slR m (n+1) (D.put (.int .i64 i) x.d)):KMap m (n+1) (fun j=>if j=i then some x else f j) w':=by
 refine ⟨_,h',fun k hk z=>?_⟩
 by_cases e:k=(i:Int)
 ·subst e
  rw [Maps.atKey_put_same ho.isMap (isKey _)]
  simp [atF]
 ·rw [Maps.atKey_put_other (by intro h;exact e (by injection h)),hD k hk z]
  unfold atF
  by_cases h0:0≤k
  ·have e2:k.toNat≠i:=by omega
   simp [h0,e2]
  ·rw [if_neg h0,if_neg h0]
theorem zkG {s:Nat} {k:KS} {G:Nat→Prop} {w:World} (h:KAt s k G w) (hn:k.n≤4096) (i:Nat) (hi:i<512) (x:Ck) (hx:Foot (SliceR 1 (.slice (some ⟨x.b,0,none⟩) x.bs.length x.c) x.bs.length (u8s x.bs)) w (fun j=>j=x.b)) (hxk:¬ KF s k x.b) (p q:Nat)
    (hp:w.heap[p]? = some (.cells #[.slice (some ⟨x.b,0,none⟩) x.bs.length x.c] 23 (0,0))) (hq:w.heap[q]? = some (.cells #[.int .i64 i] 3 (0,0))) :
    Calls Tryz.prog 232 #[.pointer (some ⟨s,2,none⟩),.pointer (some ⟨p,0,none⟩),.pointer (some ⟨q,0,none⟩)] w fun e w'=>(∃ v,e=.returned v)∧KAt s (k.put i x) (fun j=>G j∨j=x.b) w'∧Keep (fun j=>j=k.m) w w':=by
 obtain ⟨c0,c1,c2,c3,c4,cf⟩:=h.cells
 have zp:w.cell? ⟨p,0,none⟩=_:=World.news_of_block hp 0 _ rfl
 have zq:w.cell? ⟨q,0,none⟩=_:=World.news_of_block hq 0 _ rfl
 obtain ⟨D,ho,hD⟩:=h.map
 obtain ⟨w',hrun,ho',hgr⟩:=(show w.drew.ownsMap _ _ _ _ _ _ from ho).update zZI zIK (by simp only [maxLen];omega) (key:=.int .i64 i) (val:=.slice (some ⟨x.b,0,none⟩) x.bs.length x.c) (zmK (zmE hi)) (d:=x.d) (ps:=[]) rfl
 have hkp:Keep (fun j=>j=k.m) w w':=((Keep.refl _ w).drew).grown hgr (fun j hj=>.inl (Option.some.inj hj).symm)
 have hN:KAt s (k.put i x) (fun j=>G j∨j=x.b) w':=by
  obtain ⟨fs,hr⟩:=h.row
  have hm:=KMap.putD hD ho i hi x ho'
  have hro:=(h.ro.and hx).keep hkp (fun j hj e=>by
   rcases hj with hj | hj
   ·exact h.g j hj (.inr (.inl e))
   ·exact hxk (.inr (.inl (by rw [← hj,e]))))
  refine ⟨(hkp.block s h.lt h.sm).trans h.cell,hm,⟨fs,zE hr hkp (fun j hj e=>h.mo (by subst e;exact hj))⟩,hro.imp (fun W' hh j y hy=>?_),h.sm,h.so,h.mo,fun j hj=>?_⟩
  ·simp only [KS.put] at hy
   split at hy
   ·cases hy;exact hh.2
   ·exact hh.1 j y hy
  ·rcases hj with hj | hj
   ·exact h.g j hj
   ·rw [hj];exact hxk
 have HN:=LH hN
 have HK:=LH hkp
 clear hN hkp hgr ho' ho hD hx hxk h hn hp hq
 go_enter Tryz.func232,Tryz.ntmps232
 go_wp2
 refine zD [0,1,2,3,4,5,6] [6] [3,4,5] [6] rfl (by kernel_rfl) ?_
 iterate 3
  refine ord_p ?_
 refine ord_r (y:=by intro w' hg;have q:=hg.cell c2 (fun h=>h);go_simp;with_reducible rfl) (z:=?_)
 refine ord_r (y:=by intro w' hg;have q:=hg.cell zq (fun h=>h);go_simp;with_reducible rfl) (z:=?_)
 refine ord_r (y:=by intro w' hg;have q:=hg.cell zp (fun h=>h);go_simp;with_reducible rfl) (z:=?_)
 refine zK rfl rfl rfl rfl w' ?_ (fun h=>absurd (by simp) h) ?_
 ·go_simp
 refine zF ?_
 go_wp2
 go_end0
 exact ⟨⟨_,rfl⟩,HN.out,HK.out⟩
def put1V (p q:Nat):Value:=.func (.func 232) #[] #[.pointer (some ⟨p,0,none⟩),.pointer (some ⟨q,0,none⟩)]
theorem zAL {s:Nat} {k:KS} {G:Nat→Prop} {w:World} (h:KAt s k G w) (hn:k.lo.n≤4096) (hn2:k.n≤4096) (i:Nat) (hi:i<512) (x:Ck) (hx:Foot (SliceR 1 (.slice (some ⟨x.b,0,none⟩) x.bs.length x.c) x.bs.length (u8s x.bs)) w (fun j=>j=x.b)) (hxk:¬ KF s k x.b) (p q:Nat)
    (hp:w.heap[p]? = some (.cells #[.slice (some ⟨x.b,0,none⟩) x.bs.length x.c] 23 (0,0))) (hq:w.heap[q]? = some (.cells #[.int .i64 i] 3 (0,0))) :
    Calls Tryz.prog 187 #[.pointer (some ⟨s,0,none⟩),put1V p q] w fun e w'=>(∃ v,e=.returned v)∧∃ A c,KAt s ((k.put i x).step A c) (fun j=>G j∨j=x.b) w'∧Keep (KF s k) w w'∧∀ j,(Value.slice A (k.lo.n+1) c).ownBlock=some j→(Value.slice k.lo.A k.lo.n k.lo.c).ownBlock=some j∨w.heap.size≤j:=by
 have H:=LH h
 have HX:=LH hx
 have HXK:=LH hxk
 have HP:=LH hp
 have HQ:=LH hq
 unfold put1V
 clear h hx hxk hp hq
 go_enter Tryz.func187,Tryz.ntmps187
 go_wp2_with fail
 refine (zkG H.out hn2 i hi x HX.out HXK.out p q HP.out HQ.out).mono ?_
 rintro e w1 ⟨⟨v,rfl⟩,h1,hk⟩
 have HK:=LH hk
 have H1:=LH h1
 clear hk h1
 obtain ⟨c0,c1,c2,c3,c4,cf⟩:=H1.out.cells
 have hlo:(k.put i x).lo=k.lo:=rfl
 rw [hlo] at c4
 clear hlo
 obtain ⟨fs,hr⟩:=H1.out.row
 have HR:=LH hr
 clear hr
 go_wp2_with (at_builtin;refine zL _ rfl _ _ 181 181 rfl 0 194 .nilFunc 1 8 zLD zlE rfl (.slice k.lo.A k.lo.n k.lo.c) k.lo.n fs rfl (.slice (some ⟨w1.heap.size,0,none⟩) 1 1) 1 [put1V p q] rfl ?_ (by exact zE HR.out ((Keep.refl NoB w1).alloc _) (fun _ _ h=>h)) (by exact Src.ofSlice _ zLD ⟨w1.heap.size,0,none⟩ 1 1 _ rfl (World.news_of_block (cs:=#[put1V p q]) (t:=194) (fr:=(0,0)) (heap_alloc_new w1 _)) (by simp [Value.oneCell',put1V])) (by simp only [maxLen];omega) (by omega) (by exact Nat.zero_le _);intro v2 w2 hap;refine Hid.out ?_)
 refine LH ?_
 obtain ⟨A2,c2',rfl,_⟩:=zJ hap.own
 have hg:=(Keep.refl NoB w1).alloc (.cells #[put1V p q] 194)
 have hst:=(H1.out.grow hg).stepped hap
 have hof:∀ j,(Value.slice A2 (k.lo.n+1) c2').ownBlock=some j→(Value.slice k.lo.A k.lo.n k.lo.c).ownBlock=some j∨w.heap.size≤j:=fun j hj=>(zo hap j hj).imp id (fun e=>by have:=HK.out.size;simp at e;omega)
 have hkk:=(HK.out.mono (T:=KF s k) (fun _ h=>.inr (.inl h))).trans ((hg.mono (T:=KF s k) (fun _ h=>h.elim)).trans hst.2 (fun j hj=>.inl (hj.elim .inl (fun h=>.inr (.inr h))))) (fun j hj=>.inl hj)
 have HST:=LH hst.1
 have HKK:=LH hkk
 have HOF:=LH hof
 have hcw:w2.cell? ⟨s,4,none⟩=some (.slice k.lo.A k.lo.n k.lo.c)∧∀ o,w2.frozen? ⟨s,o,none⟩=false:=by
  have hh:w2.heap[s]? = _:=(((Keep.refl _ _).grown hap.grew (fun j hj=>.inl hj):Keep (fun j=>(Value.slice k.lo.A k.lo.n k.lo.c).ownBlock=some j) _ _).block s (H1.out.grow hg).lt H1.out.so).trans (H1.out.grow hg).cell
  exact ⟨World.news_of_block hh 4 _ rfl,fun o=>zM o hh⟩
 clear hst hkk hof hap hg c0 c1 c2 c3 c4 cf
 obtain ⟨c4,cf⟩:=hcw
 go_wp2
 go_end0
 exact ⟨⟨_,rfl⟩,A2,c2',HST.out,HKK.out,HOF.out⟩
theorem zSC {s:Nat} {k:KS} {G:Nat→Prop} {w:World} (h:KAt s k G w) (hn:k.lo.n≤4096) (hn2:k.n≤4096) (i:Nat) (hi:i<512) (A:Option Addr) (l:List Int) (c:Nat) (hl:l.length≤64) (h0:0<l.length) (hs:SliceR 1 (.slice A l.length c) l.length (u8s l) w) :
    Calls Tryz.prog 182 #[.pointer (some ⟨s,0,none⟩),.int .i64 i,.slice A l.length c] w fun e w'=>e=.returned (.bool true)∧∃ x A' c',x.bs=l∧KAt s ((k.put i x).step A' c') (fun j=>G j∨j=x.b) w'∧Keep (KF s k) w w'∧w.heap.size≤x.b∧∀ j,(Value.slice A' (k.lo.n+1) c').ownBlock=some j→(Value.slice k.lo.A k.lo.n k.lo.c).ownBlock=some j∨w.heap.size≤j:=by
 have hg0:=((Keep.refl NoB w).alloc (.cells #[.int .i64 i] 3)).alloc (.cells #[.slice A l.length c] 23)
 have hz1:=Grow.heap ((Keep.refl NoB _).alloc (.cells #[.slice A l.length c] 23)) (heap_alloc_new w (.cells #[.int .i64 i] 3))
 have hz2:=heap_alloc_new (w.alloc (.cells #[.int .i64 i] 3)) (.cells #[.slice A l.length c] 23)
 have hsz1:(w.alloc (.cells #[.int .i64 i] 3)).heap.size=w.heap.size+1:=by simp
 rw [hsz1] at hz2
 have H:=LH (h.grow hg0)
 have HS:=LH (hs.grow hg0)
 have HG:=LH hg0
 have HZ1:=LH hz1
 have HZ2:=LH hz2
 have hsm:=h.small
 have HSM:=LH hsm
 have HGM:Hid (∀ j,G j→j<w.heap.size):=LH h.ro.1
 have hl0:(64<(l.length:Int))=False:=by simp;omega
 have hi1:((i:Int)<0)=False:=by simp
 have hi2:((512:Int)≤i)=False:=by simp;omega
 clear h hs hg0 hz1 hz2 hsm
 go_enter Tryz.func182,Tryz.ntmps182
 have y1:((w.alloc (.cells #[.int .i64 i] 3)).alloc (.cells #[.slice A l.length c] 23)).cell? ⟨w.heap.size,0,none⟩=_:=World.news_of_block HZ1.out 0 _ rfl
 have y2:((w.alloc (.cells #[.int .i64 i] 3)).alloc (.cells #[.slice A l.length c] 23)).cell? ⟨w.heap.size+1,0,none⟩=_:=World.news_of_block HZ2.out 0 _ rfl
 go_wp2_with fail
 refine (ziB _ l _ HS.out (by omega)).mono ?_
 rintro e w2 ⟨A2,c2',rfl,ho,hg⟩
 obtain ⟨B,rfl,hB⟩:∃ B,A2=some ⟨B,0,none⟩∧w.heap.size+2≤B:=by
  obtain ⟨A3,c3,e3,_,h3,h4⟩:=zJ ho
  cases e3
  rcases A2 with _ | ad
  ·exact absurd (h4 rfl).1 (by omega)
  ·refine ⟨ad.block,h3 ad.block rfl,?_⟩
   have:=(ho.lt ad.block rfl).1
   simp at this
   omega
 replace HZ1:=LH (Grow.heap hg HZ1.out)
 replace HZ2:=LH (Grow.heap hg HZ2.out)
 replace H:=LH (H.out.grow hg)
 replace HG:=LH (HG.out.grow hg)
 have HO:=LH ho
 have y3:w2.cell? ⟨w.heap.size,0,none⟩=_:=World.news_of_block HZ1.out 0 _ rfl
 have y4:w2.cell? ⟨w.heap.size+1,0,none⟩=_:=World.news_of_block HZ2.out 0 _ rfl
 have y5:∀ o,w2.frozen? ⟨w.heap.size+1,o,none⟩=false:=fun o=>zM o HZ2.out
 clear y1 y2 hg ho
 go_wp2_with fail
 have hsz2:=HG.out.size
 have hset:=(Keep.refl (fun j=>j=w.heap.size+1) w2).setCell (p:=⟨w.heap.size+1,0,none⟩) (.inl rfl) (.slice (some ⟨B,0,none⟩) l.length c2')
 have hsm:∀ j,KF s k j→j≠w.heap.size+1:=fun j hj e=>by have:=HSM.out j hj;omega
 have H3:=LH (H.out.keep hset (fun j hj e=>hsm j hj e) (fun j hj e=>by have:=HGM.out j hj;omega))
 refine (zAL H3.out hn hn2 i hi ⟨B,c2',l⟩ ?_ ?_ (w.heap.size+1) w.heap.size ?_ ?_).mono ?_
 ·exact ((Foot.of_own HO.out).keep hset (fun j hj e=>by have hj2:B=j:=Option.some.inj hj;omega)).mono (fun j hj=>by have:=HO.out.lt B rfl;rw [hj];simpa using this.2) (fun j hj=>by cases hj;rfl)
 ·exact fun hh=>by have:=HSM.out _ hh;simp only at this;omega
 ·exact zLB HZ2.out 0 _
 ·exact (hset.block _ (by have:=(gE HZ1.out).1;exact this) (by simp)).trans HZ1.out
 rintro e w5 ⟨⟨v,rfl⟩,A5,c5,h5,hk5,hof⟩
 have HN:=LH h5
 have HF:=LH ((((HG.out.mono (T:=fun j=>j=w.heap.size+1) (fun _ h=>h.elim)).trans hset (fun j hj=>.inl hj)).new (fun i e=>by rw [e];omega)).mono (T:=KF s k) (fun _ h=>h.elim) |>.trans hk5 (fun j hj=>.inl hj))
 have HOF:Hid (∀ j,(Value.slice A5 (k.lo.n+1) c5).ownBlock=some j→(Value.slice k.lo.A k.lo.n k.lo.c).ownBlock=some j∨w.heap.size≤j):=LH (fun j hj=>(hof j hj).imp id (fun h=>by have:=hset.size;omega))
 clear h5 hk5 hof hset hsm y3 y4 y5
 go_wp2
 go_ret
 exact ⟨rfl,⟨B,c2',l⟩,A5,c5,rfl,HN.out,HF.out,by show w.heap.size≤B;omega,HOF.out⟩
theorem zJK (w:World):Calls Tryz.prog 125 #[.slice none 0 0] w fun e w'=>e=.returned (.tuple #[.agg #[.int .u64 0,.slice none 0 0,.int .u32 0,.slice none 0 0],.int .u16 10])∧Grow w w':=by
 have HG:=LH ((Keep.refl NoB w).alloc (.cells #[.int .u64 0,.slice none 0 0,.int .u32 0,.slice none 0 0] 104))
 go_enter Tryz.func125,Tryz.ntmps125
 go_wp2
 have HC:=heap_alloc_new w (.cells #[.int .u64 0,.slice none 0 0,.int .u32 0,.slice none 0 0] 104)
 have z0:(w.alloc (.cells #[.int .u64 0,.slice none 0 0,.int .u32 0,.slice none 0 0] 104)).cell? ⟨w.heap.size,0,none⟩=_:=World.news_of_block HC 0 _ rfl
 have z1:(w.alloc (.cells #[.int .u64 0,.slice none 0 0,.int .u32 0,.slice none 0 0] 104)).cell? ⟨w.heap.size,1,none⟩=_:=World.news_of_block HC 1 _ rfl
 have z2:(w.alloc (.cells #[.int .u64 0,.slice none 0 0,.int .u32 0,.slice none 0 0] 104)).cell? ⟨w.heap.size,2,none⟩=_:=World.news_of_block HC 2 _ rfl
 have z3:(w.alloc (.cells #[.int .u64 0,.slice none 0 0,.int .u32 0,.slice none 0 0] 104)).cell? ⟨w.heap.size,3,none⟩=_:=World.news_of_block HC 3 _ rfl
 refine bodyPost_ret (v:=.tuple #[.agg #[.int .u64 0,.slice none 0 0,.int .u32 0,.slice none 0 0],.int .u16 10]) ?_ rfl ⟨rfl,HG.out⟩
 rw [results_cell_tmp rfl];go_simp
theorem zpH {s:Nat} {k:KS} {G:Nat→Prop} {w:World} (h:KAt s k G w) (hn:k.nt=⟨none,0,0⟩):Calls Tryz.prog 52 #[.pointer (some ⟨s,0,none⟩)] w fun e w'=>e=.returned (.tuple #[.agg #[.int .u64 0,.slice none 0 0,.int .u32 0,.slice none 0 0],.bool false])∧Grow w w':=by
 have HG:=LH ((Keep.refl NoB w).alloc (.cells #[.int .u64 0,.slice none 0 0,.int .u32 0,.slice none 0 0] 104))
 obtain ⟨c0,c1,c2,c3,c4,cf⟩:=(h.grow HG.out).cells
 rw [hn] at c3
 clear h hn
 go_enter Tryz.func52,Tryz.ntmps52
 go_wp2_with fail
 refine (zJK _).mono ?_
 rintro e w2 ⟨rfl,hg⟩
 have HB:=LH (Grow.heap hg (heap_alloc_new w (.cells #[.int .u64 0,.slice none 0 0,.int .u32 0,.slice none 0 0] 104)))
 have HG2:=LH (HG.out.grow hg)
 clear hg c0 c1 c2 c3 c4 cf
 have HG3:=LH ((Keep.refl NoB w2).alloc (.cells #[.int .u64 0,.slice none 0 0,.int .u32 0,.slice none 0 0] 104))
 have HN:=LH (heap_alloc_new w2 (.cells #[.int .u64 0,.slice none 0 0,.int .u32 0,.slice none 0 0] 104))
 obtain ⟨z0,z1,z2,z3,zf⟩:=zKA (Grow.heap HG3.out HB.out)
 obtain ⟨y0,y1,y2,y3,yf⟩:=zKA HN.out
 have HS:=LH (zOE (.int .u64 0) (.slice none 0 0) (.int .u32 0) (.slice none 0 0) (HG2.out.grow HG3.out) (by simp) (Grow.heap HG3.out HB.out))
 clear HG3
 go_wp2
 obtain ⟨r0,r1,r2,r3,rf⟩:=zKA HS.out.1
 refine bodyPost_ret (v:=.tuple #[.agg #[.int .u64 0,.slice none 0 0,.int .u32 0,.slice none 0 0],.bool false]) ?_ rfl ⟨rfl,HS.out.2⟩
 rw [results_cell_tmp rfl];go_simp
end Go.Proofs.YtfkcpaahdlkcdaaGreat
namespace Go.Proofs.YtfkcpaahdlkcdaaGreat
open Go.RowKit
section
variable {P:Program} {ops:Array Oper} {Q:Exit→Act→World→Prop} {ds:List Nat} {S:Nat→Prop} {R:Act→World→Prop} {acts reads rest:List Nat} {a:Act} {w:World} {i:Nat} {o:Oper}
theorem zPD (w:World) (g off:Nat) (t ty:TypeId) (old cells new:Array Value) (hg:w.heap[g]? = some (.cells old t (0,0))) (hi:(P.info? ty).map (·.size)=some cells.size)
    (ho:off+cells.size≤old.size) (hnew:(old.toList.take off++cells.toList++old.toList.drop (off+cells.size)).toArray=new) (h1:cells.all (·.oneCell')=true) :
    (storeVar ty ⟨g,off,none⟩ (.agg cells)).run P w=.ok () (w.setRow g new):=by
 have:=run_storeCells_at P g off t cells.toList 0 old w hg (by simpa using ho) (fun v hv=>(Array.all_eq_true_iff_forall_mem.1 h1) v (by simpa using hv))
 simp only [Nat.add_zero,Array.length_toList,hnew] at this
 cases hq:P.info? ty with
 | none=>simp [hq] at hi
 | some i =>
  have hs:cells.size=i.size:=by simp [hq] at hi;omega
  simp [storeVar,sizeOf,typeInfo,hq,Value.cells,hs,this]
theorem zhD (hl:ops.toList[i]? = some o) (ha:acts.contains i=true) (hN:o.dst=none) (hg:o.guard=none) (ty:TypeId) (x y:Operand) (hop:o.op=Op.store ty x y) (g off:Nat) (cells:Array Value) (hx:a.eval x=.pointer (some ⟨g,off,none⟩)) (hy:a.eval y=.agg cells)
    (t:TypeId) (old new:Array Value) (hgc:w.heap[g]? = some (.cells old t (0,0))) (hi:(P.info? ty).map (·.size)=some cells.size) (ho:off+cells.size≤old.size) (hnew:(old.toList.take off++cells.toList++old.toList.drop (off+cells.size)).toArray=new) (h1:cells.all (·.oneCell')=true)
    (hk:i∉ds→Keep S w (w.setRow g new)) (h:wpOrdC S P ops Q R acts reads ds rest a (w.setRow g new)):wpOrdC S P ops Q R acts reads ds (i :: rest) a w:=by
 refine zrA hl ha (fun K hK=>?_)
 rw [if_pos (by simp [Region.wanted,hg])]
 unfold Oper.wp execOp
 simp only [hop,hx,hy,Instr.storeAt,Instr.sureAddr,Sem.run_bind,Sem.run_pure,Result.andThen_ok,zPD w g off t ty old cells new hgc hi ho hnew h1]
 have hp:=hK _ _ ⟨hk,h⟩
 rw [← show a.put o.dst undef=a by rw [hN];rfl] at hp
 exact hp
end
def RC.begin (d:RC) (p:Addr) (s:Int) (m:Nat):RC:={ d with part:=some p,phase:=1,session:=s,sum:=m }
theorem zZC {g:Nat} {d:RC} {w:World} (h:RCell g d w) (e:Nat) (he:e≤100) :
    Calls Tryz.prog 181 #[.pointer (some ⟨g,0,none⟩),.int .u16 e] w fun ee w'=>∃ b,ee=.returned (.slice (some ⟨b,0,none⟩) 1 1)∧OneG w' b 5 d.session e 0 d.sum∧w.heap.size≤b∧RCell g (d.fail e) w'∧Keep (fun k=>k=g) w w':=by
 have H:=LH h
 clear h
 go_enter Tryz.func181,Tryz.ntmps181
 go_wp2_with fail
 refine (zDC H.out e).mono ?_
 rintro ee w1 ⟨⟨v,rfl⟩,hr,hk⟩
 have HR:=LH hr
 have HK:=LH hk
 clear hr hk
 have hcv:(e:Int)≤65535:=by omega
 go_wp2_with fail
 refine (zWD HR.out 5 e).mono ?_
 rintro ee w2 ⟨rfl,hg⟩
 replace HK:=LH (HK.out.grow hg)
 replace HR:=LH (HR.out.grow hg)
 clear hg
 go_wp2
 go_ret
 have hsz:=HK.out.size
 refine ⟨_,rfl,heap_alloc_new w2 _,hsz,HR.out.grow ((Keep.refl NoB w2).alloc _),HK.out.grow ((Keep.refl NoB w2).alloc _)⟩
theorem zBD {g:Nat} {d:RC} {w:World} (hc:RCell g d w) (session:Int) (sum:Nat) (h01:0≤session∧session≤18446744073709551615) (hsum:sum<4294967296) (A:Option Addr) (c:Nat) (l:List Int) (hf:fitsB l=true) (n:Nat) (hn:l.sum=(n:Int)) (h:SliceR 1 (.slice A l.length c) l.length (ints l) w) :
    Calls Tryz.prog 104 #[.pointer (some ⟨g,0,none⟩),.agg #[.int .u64 session,.slice A l.length c,.int .u32 (sum:Nat)]] w fun e w'=>(∃ v,e=.returned v)∧∃ b p G,RCell g (d.begin ⟨b,0,none⟩ session sum) w'∧Keep (fun k=>k=g) w w'∧PAt b p ⟨session,l,sum,List.replicate n 0,makeB (chunksN l)⟩ G w'∧w.heap.size≤b∧w.heap.size≤p.wb∧∀ k,G k→w.heap.size≤k:=by
 have hg0:=(Keep.refl NoB w).alloc (.cells #[.int .u64 session,.slice A l.length c,.int .u32 (sum:Nat)] 40)
 have HN:=LH (znH session sum h01 hsum A c l hf n hn _ (h.grow hg0))
 have HZ:=LH (heap_alloc_new w (.cells #[.int .u64 session,.slice A l.length c,.int .u32 (sum:Nat)] 40))
 have H:=LH (hc.grow hg0)
 have hlt:=hc.lt
 have HG:=LH hg0
 clear hc hg0 h hf h01 hsum hn
 go_enter Tryz.func104,Tryz.ntmps104
 obtain ⟨z0,z1,z2,zf⟩:=zI HZ.out
 go_wp2_with fail
 refine HN.out.mono ?_
 rintro e w1 ⟨b,p,G,rfl,hg,hP,hb,hpw,hG⟩
 replace H:=LH (H.out.grow hg)
 replace HZ:=LH (Grow.heap hg HZ.out)
 have hsz:=HG.out.size
 replace HG:=LH (HG.out.grow hg)
 have HP:=LH hP
 have HB:=LH (show w.heap.size≤b∧w.heap.size≤p.wb∧∀ k,G k→w.heap.size≤k from ⟨Nat.le_trans hsz hb,Nat.le_trans hsz hpw,fun k hk=>Nat.le_trans hsz (hG k hk)⟩)
 clear z0 z1 z2 zf HN hg hP hb hpw hG hsz
 obtain ⟨c0,c1,c2,c3,c4,c5,c6,c7,c8,c9,c10,c11,c12,c13,c14,c15,c16,c17,c18,c19,c20,cf⟩:=zH H.out
 have h1:=H.out.put (d':={ d with part:=some ⟨b,0,none⟩ }) 0 (.pointer (some ⟨b,0,none⟩)) rfl
 have hgb:g≠w.heap.size:=by omega
 go_wp2
 obtain ⟨w2,hw2⟩:∃ w2,w1.setCell ⟨g,0,none⟩ (.pointer (some ⟨b,0,none⟩))=w2:=⟨_,rfl⟩
 rw [hw2] at h1 ⊢
 have HZ2:=LH ((h1.2.block _ (gE HZ.out).1 (fun e=>hgb e.symm)).trans HZ.out)
 have H1:=LH h1
 clear h1 hw2 c0 c1 c2 c3 c4 c5 c6 c7 c8 c9 c10 c11 c12 c13 c14 c15 c16 c17 c18 c19 c20 cf
 obtain ⟨c0,c1,c2,c3,c4,c5,c6,c7,c8,c9,c10,c11,c12,c13,c14,c15,c16,c17,c18,c19,c20,cf⟩:=zH H1.out.1
 obtain ⟨z0,z1,z2,zf⟩:=zI HZ2.out
 have HE:=LH (show ¬ w.heap.size=g from fun e=>hgb e.symm)
 refine zc (fun k=>k=g) [0,1,2,3,4,5,6,7,8,9,10,11,12,13,14,15] [9,12,15] [4,6] [] rfl (by kernel_rfl) ?_
 iterate 4
  refine ord_p ?_
 refine ord_r (y:=by intro w' hg;have q:=hg.cell z0 HE.out;go_simp;with_reducible rfl) (z:=?_)
 refine ord_p ?_
 refine ord_r (y:=by intro w' hg;have q:=hg.cell z2 HE.out;go_simp;with_reducible rfl) (z:=?_)
 iterate 2
  refine ord_p ?_
 refine zK rfl rfl rfl rfl ?_ ?_ ?_ ?_
 rotate_left
 ·go_simp;with_reducible rfl
 ·exact fun _=>zV _ _ _ _
 iterate 2
  refine ord_p ?_
 refine zK rfl rfl rfl rfl ?_ ?_ ?_ ?_
 rotate_left
 ·go_simp;with_reducible rfl
 ·exact fun _=>zV _ _ _ _
 iterate 2
  refine ord_p ?_
 refine zK rfl rfl rfl rfl ?_ ?_ ?_ ?_
 rotate_left
 ·go_simp;with_reducible rfl
 ·exact fun _=>zV _ _ _ _
 refine zF ?_
 have h3:=(show RCell g _ w2.drew from H1.out.1).put (d':={ d with part:=some ⟨b,0,none⟩,phase:=1 }) 6 (.int .i64 1) rfl
 have h4:=h3.1.put (d':={ d with part:=some ⟨b,0,none⟩,phase:=1,session:=session }) 8 (.int .u64 session) rfl
 have h5:=h4.1.put (d':=d.begin ⟨b,0,none⟩ session sum) 9 (.int .u32 (sum:Nat)) rfl
 have hk1:=((H1.out.2.drew.trans h3.2 (fun _ h=>.inl h)).trans h4.2 (fun _ h=>.inl h)).trans h5.2 (fun _ h=>.inl h)
 have hk:=(HG.out.mono (T:=fun k=>k=g) (fun _ h=>h.elim)).trans hk1 (fun _ h=>.inl h)
 have hP:=HP.out.keep hk1 (by have:=HB.out.1;omega) (by have:=HB.out.2.1;omega) (fun j hj e=>by have:=HB.out.2.2 j hj;omega)
 have HN:=LH (And.intro h5.1 (And.intro hk hP))
 clear h3 h4 h5 hk1 hk hP c0 c1 c2 c3 c4 c5 c6 c7 c8 c9 c10 c11 c12 c13 c14 c15 c16 c17 c18 c19 c20 cf
 go_wp2
 go_end0
 exact ⟨⟨_,rfl⟩,b,p,G,HN.out.1,HN.out.2.1,HN.out.2.2,HB.out⟩
end Go.Proofs.YtfkcpaahdlkcdaaGreat
namespace Go.Proofs.YtfkcpaahdlkcdaaGreat
open Go.RowKit
def RC.idle (win back retry quota:Int) (st:Nat):RC:=⟨none,win,back,retry,quota,st,0,0,0,0,0,false,false,false,false,⟨none,0,0⟩,⟨none,0,0⟩,⟨none,0,0⟩,⟨none,0,0⟩,false,false⟩
theorem zzI (w:World) (m:Int) :
    Calls Tryz.prog 130 #[.int .i64 0,.int .i64 m] w fun e w'=>e=.returned (.bool false)∧w=w':=by
 go_enter Tryz.func130,Tryz.ntmps130
 go_wp2
 go_ret
 exact ⟨rfl,rfl⟩
theorem zKK (w:World) :
    Calls Tryz.prog 59 #[.agg #[.int .i64 0,.int .i64 0,.int .i64 0,.int .i64 0]] w fun e w'=>e=.returned (.bool false)∧Grow w w':=by
 have HG:=LH ((Keep.refl NoB w).alloc (.cells #[.int .i64 0,.int .i64 0,.int .i64 0,.int .i64 0] 26))
 go_enter Tryz.func59,Tryz.ntmps59
 go_wp2_with fail
 refine (zzI _ 64).mono ?_
 rintro e w1 ⟨rfl,rfl⟩
 go_wp2
 go_ret
 exact ⟨rfl,HG.out⟩
theorem zLK (st:Nat) (w:World) :
    Calls Tryz.prog 35 #[.agg #[.int .i64 0,.int .i64 0,.int .i64 0,.int .i64 0],.pointer (some ⟨st,0,none⟩)] w fun e w'=>e=.returned (.tuple #[.pointer none,.int .u16 1])∧Grow w w':=by
 have HG:=LH ((Keep.refl NoB w).alloc (.cells #[.int .i64 0,.int .i64 0,.int .i64 0,.int .i64 0] 26))
 obtain ⟨z0,z1,z2,z3,zf⟩:=zKA (heap_alloc_new w (.cells #[.int .i64 0,.int .i64 0,.int .i64 0,.int .i64 0] 26))
 go_enter Tryz.func35,Tryz.ntmps35
 go_wp2_with fail
 refine (zKK _).mono ?_
 rintro e w1 ⟨rfl,hg⟩
 replace HG:=LH (HG.out.grow hg)
 clear hg
 go_wp2
 go_ret2
 exact ⟨rfl,HG.out⟩
theorem zAE {win back retry quota:Int} (hc:OkC win back retry quota) {s:Nat} {k:KS} {G:Nat→Prop} {w:World} (h:KAt s k G w) (hn:k.nt=⟨none,0,0⟩) :
    Calls Tryz.prog 35 #[.agg #[.int .i64 win,.int .i64 back,.int .i64 retry,.int .i64 quota],.pointer (some ⟨s,0,none⟩)] w fun e w'=>∃ g,e=.returned (.tuple #[.pointer (some ⟨g,0,none⟩),.int .u16 0])∧RCell g (RC.idle win back retry quota s) w'∧Grow w w'∧w.heap.size≤g:=by
 have hg0:=(Keep.refl NoB w).alloc (.cells #[.int .i64 win,.int .i64 back,.int .i64 retry,.int .i64 quota] 26)
 have HZ:=LH (heap_alloc_new w (.cells #[.int .i64 win,.int .i64 back,.int .i64 retry,.int .i64 quota] 26))
 have HC:=LH (zfF win back retry quota hc (w.alloc (.cells #[.int .i64 win,.int .i64 back,.int .i64 retry,.int .i64 quota] 26)))
 have HG:=LH hg0
 have H:=LH (h.grow hg0)
 have HNT:=LH hn
 clear hc hg0 h hn
 go_enter Tryz.func35,Tryz.ntmps35
 obtain ⟨z0,z1,z2,z3,zf⟩:=zKA HZ.out
 go_wp2_with fail
 refine HC.out.mono ?_
 rintro e w1 ⟨rfl,hg⟩
 replace H:=LH (H.out.grow hg)
 replace HG:=LH (HG.out.grow hg)
 replace HZ:=LH (Grow.heap hg HZ.out)
 clear hg HC z0 z1 z2 z3 zf
 obtain ⟨z0,z1,z2,z3,zf⟩:=zKA HZ.out
 go_wp2_with fail
 have hR:=heap_alloc_new w1 (.cells (RC.idle win back retry quota s).cs 173)
 have hgr:=(Keep.refl NoB w1).alloc (.cells (RC.idle win back retry quota s).cs 173)
 refine (zpH (H.out.grow hgr) HNT.out).mono ?_
 rintro e w2 ⟨rfl,hg⟩
 have HN:=LH (show RCell w1.heap.size (RC.idle win back retry quota s) w2 from Grow.heap hg hR)
 replace HG:=LH ((HG.out.grow hgr).grow hg)
 have HSZ:Hid (w.heap.size≤w1.heap.size):=LH (by have:=HZ.out;have:=(gE this).1;omega)
 clear hR hgr hg z0 z1 z2 z3 zf
 have HG3:=LH ((Keep.refl NoB w2).alloc (.cells #[.int .u64 0,.slice none 0 0,.int .u32 0,.slice none 0 0] 104))
 go_wp2
 go_ret2
 exact ⟨_,rfl,HN.out.grow HG3.out,HG.out.grow HG3.out,HSZ.out⟩
theorem zqH {g:Nat} {d:RC} {w:World} (h:RCell g d w) (hp:d.phase=0) (hcl:d.closed=false):Calls Tryz.prog 51 #[.pointer (some ⟨g,0,none⟩),.int .i64 0] w fun e w'=>e=.returned (.slice none 0 0)∧w=w':=by
 obtain ⟨c0,c1,c2,c3,c4,c5,c6,c7,c8,c9,c10,c11,c12,c13,c14,c15,c16,c17,c18,c19,c20,cf⟩:=zH h
 rw [hp] at c6
 rw [hcl] at c20
 clear h hp hcl
 go_enter Tryz.func51,Tryz.ntmps51
 go_wp2
 go_ret
 exact ⟨rfl,rfl⟩
theorem zrH {g:Nat} {d:RC} {w:World} (h:RCell g d w) (hp:d.phase≠3) (hq:d.part=none) (A:Option Addr) (n c:Nat) (at_:Int):Calls Tryz.prog 41 #[.pointer (some ⟨g,0,none⟩),.agg #[.slice A n c,.int .i64 at_]] w fun e w'=>e=.returned (.tuple #[.agg #[.int .i64 0,.int .i64 0,.int .i64 0,.int .i64 0,.int .u64 0],.int .u16 30])∧Grow w w':=by
 have hg:=(((Keep.refl NoB w).alloc (.cells #[.slice A n c,.int .i64 at_] 83))).alloc (.cells #[.int .i64 0,.int .i64 0,.int .i64 0,.int .i64 0,.int .u64 0] 86)
 have hc:=heap_alloc_new (w.alloc (.cells #[.slice A n c,.int .i64 at_] 83)) (.cells #[.int .i64 0,.int .i64 0,.int .i64 0,.int .i64 0,.int .u64 0] 86)
 have hsz:(w.alloc (.cells #[.slice A n c,.int .i64 at_] 83)).heap.size=w.heap.size+1:=by simp
 rw [hsz] at hc
 obtain ⟨c0,c1,c2,c3,c4,c5,c6,c7,c8,c9,c10,c11,c12,c13,c14,c15,c16,c17,c18,c19,c20,cf⟩:=zH (h.grow hg)
 rw [hq] at c0
 have HG:=LH hg
 have hpb:(d.phase==3)=false:=by simp [hp]
 clear h hp hq hg
 go_enter Tryz.func41,Tryz.ntmps41
 go_wp2
 (try simp only [Exit.inBlock,Exit.then])
 obtain ⟨z0,z1,z2,z3,z4,zf⟩:=zA hc
 refine bodyPost_ret (v:=.tuple #[.agg #[.int .i64 0,.int .i64 0,.int .i64 0,.int .i64 0,.int .u64 0],.int .u16 30]) ?_ rfl ⟨rfl,HG.out⟩
 rw [results_cell_tmp rfl];go_simp
theorem zPB (w:World):Calls Tryz.prog 34 #[] w fun e w'=>e=.returned (.bool true)∧Grow w w':=by
 have hconf:OkC 1 1 1 0:=by constructor <;> omega
 go_enter Tryz.func34,Tryz.ntmps34
 go_wp2_with fail
 refine (zRC w).mono ?_
 rintro e w1 ⟨s,k,rfl,hg,hK,_,_,hnt,_⟩
 have HG:=LH hg
 have HK:=LH hK
 clear hg hK
 go_wp2_with fail
 refine (zAE hconf HK.out hnt).mono ?_
 rintro e w2 ⟨g,rfl,hR,hg,_⟩
 have HR:=LH hR
 replace HG:=LH (HG.out.grow hg)
 clear hR hg hnt
 go_wp2_with fail
 refine (zrH HR.out (by simp [RC.idle]) rfl none 0 0 0).mono ?_
 rintro e w3 ⟨rfl,hg⟩
 have hg3:=hg.alloc (.cells #[.int .i64 0,.int .i64 0,.int .i64 0,.int .i64 0,.int .u64 0] 86)
 replace HR:=LH (HR.out.grow hg3)
 replace HG:=LH (HG.out.grow hg3)
 clear hg hg3
 go_wp2_with fail
 refine (zRC _).mono ?_
 rintro e w4 ⟨s2,k2,rfl,hg,_⟩
 replace HR:=LH (HR.out.grow hg)
 replace HG:=LH (HG.out.grow hg)
 clear hg
 go_wp2_with fail
 refine (zLK s2 _).mono ?_
 rintro e w5 ⟨rfl,hg⟩
 replace HR:=LH (HR.out.grow hg)
 replace HG:=LH (HG.out.grow hg)
 clear hg
 go_wp2_with fail
 refine (zqH HR.out rfl rfl).mono ?_
 rintro e w6 ⟨rfl,rfl⟩
 go_wp2
 go_ret
 exact ⟨rfl,HG.out⟩
theorem OkP.few {d:Par} (h:OkP d):chunksN d.sz≤512∧d.known.length≤100000:=by
 have h1:=zN h.fit
 have h2:=h.klen
 have h3:chunksN d.sz≤512:=by unfold chunksN;omega
 exact ⟨h3,by omega⟩
theorem zEC {g:Nat} {d:RC} {w:World} (h:RCell g d w) (hq:d.part=none):Calls Tryz.prog 43 #[.pointer (some ⟨g,0,none⟩)] w fun e w'=>e=.returned (.agg #[.int .i64 d.phase,.int .u16 d.err,.int .i64 0,.int .i64 0])∧Grow w w':=by
 have H:=LH (h.grow ((Keep.refl NoB w).alloc (.cells #[.int .i64 0,.int .u16 0,.int .i64 0,.int .i64 0] 48)))
 have HG:=LH ((Keep.refl NoB w).alloc (.cells #[.int .i64 0,.int .u16 0,.int .i64 0,.int .i64 0] 48))
 have HC:=LH (heap_alloc_new w (.cells #[.int .i64 0,.int .u16 0,.int .i64 0,.int .i64 0] 48))
 have HQ:=LH hq
 clear h hq
 go_enter Tryz.func43,Tryz.ntmps43
 go_wp2
 generalize w.alloc (.cells #[.int .i64 0,.int .u16 0,.int .i64 0,.int .i64 0] 48)=w1 at H HG HC ⊢
 obtain ⟨c0,c1,c2,c3,c4,c5,c6,c7,c8,c9,c10,c11,c12,c13,c14,c15,c16,c17,c18,c19,c20,cf⟩:=zH H.out
 refine zD [0,1,2,3,4,5,6,7,8,9,10] [9,10] [3,7] [10] rfl (by kernel_rfl) ?_
 iterate 3
  refine ord_p ?_
 refine ord_r (y:=by intro w' hg;have q:=hg.cell c6 (fun h=>h);go_simp;with_reducible rfl) (z:=?_)
 iterate 3
  refine ord_p ?_
 refine ord_r (y:=by intro w' hg;have q:=hg.cell c7 (fun h=>h);go_simp;with_reducible rfl) (z:=?_)
 refine ord_p ?_
 refine zl rfl rfl rfl rfl ?_ ?_ ?_ ?_ ?_ ?_
 rotate_left 3
 ·go_simp;first | with_reducible rfl | (constructor <;> with_reducible rfl)
 ·simp only [Act.put,pB,pC,pD];rfl
 refine zK rfl rfl rfl rfl ?_ ?_ (fun h=>absurd (by simp) h) ?_
 rotate_left
 ·go_simp;with_reducible rfl
 refine zF ?_
 have hga:=(Keep.refl NoB w1).drew.alloc (.cells #[.int .i64 0,.int .u16 0,.int .i64 0,.int .i64 0] 48)
 have hsz1:w.heap.size<w1.heap.size:=(gE HC.out).1
 have hga2:=((Keep.refl NoB w1).alloc (.cells #[.int .i64 d.phase,.int .u16 d.err,.int .i64 0,.int .i64 0] 48)).drew
 have HS:=LH (And.intro (show (w1.alloc (.cells #[.int .i64 d.phase,.int .u16 d.err,.int .i64 0,.int .i64 0] 48)).drew.heap[w1.heap.size]? = _ from heap_alloc_new w1 (.cells #[.int .i64 d.phase,.int .u16 d.err,.int .i64 0,.int .i64 0] 48)) hga2)
 obtain ⟨W2,hW2⟩:∃ W2,(w1.alloc (.cells #[.int .i64 d.phase,.int .u16 d.err,.int .i64 0,.int .i64 0] 48)).drew=W2:=⟨_,rfl⟩
 rw [hW2] at HS ⊢
 replace H:=LH (H.out.grow HS.out.2)
 replace HG:=LH (HG.out.grow HS.out.2)
 replace HC:=LH (Grow.heap HS.out.2 HC.out)
 obtain ⟨N,hN⟩:∃ N,w1.heap.size=N:=⟨_,rfl⟩
 replace HS:=LH HS.out.1
 rw [hN] at HS hsz1 ⊢
 clear hga hga2 hW2 hN c0 c1 c2 c3 c4 c5 c6 c7 c8 c9 c10 c11 c12 c13 c14 c15 c16 c17 c18 c19 c20 cf
 obtain ⟨c0,c1,c2,c3,c4,c5,c6,c7,c8,c9,c10,c11,c12,c13,c14,c15,c16,c17,c18,c19,c20,cf⟩:=zH H.out
 rw [HQ.out] at c0
 obtain ⟨z0,z1,z2,z3,zf⟩:=zKA HS.out
 obtain ⟨y0,y1,y2,y3,yf⟩:=zKA HC.out
 have HR:=LH (zOE (.int .i64 d.phase) (.int .u16 d.err) (.int .i64 0) (.int .i64 0) HG.out (Nat.le_refl _) HC.out)
 go_wp2
 obtain ⟨r0,r1,r2,r3,rf⟩:=zKA HR.out.1
 refine bodyPost_ret (v:=.agg #[.int .i64 d.phase,.int .u16 d.err,.int .i64 0,.int .i64 0]) ?_ rfl ⟨rfl,HR.out.2⟩
 rw [zT rfl];go_simp
theorem zaC {g b:Nat} {d:RC} {p:PP} {e:Par} {G:Nat→Prop} {w:World} (h:RCell g d w) (hq:d.part=some ⟨b,0,none⟩) (hP:PAt b p e G w):Calls Tryz.prog 43 #[.pointer (some ⟨g,0,none⟩)] w fun ee w'=>ee=.returned (.agg #[.int .i64 d.phase,.int .u16 d.err,.int .i64 (popB e.known:Nat),.int .i64 (chunksN e.sz:Nat)])∧Grow w w':=by
 have H:=LH (h.grow ((Keep.refl NoB w).alloc (.cells #[.int .i64 0,.int .u16 0,.int .i64 0,.int .i64 0] 48)))
 have HG:=LH ((Keep.refl NoB w).alloc (.cells #[.int .i64 0,.int .u16 0,.int .i64 0,.int .i64 0] 48))
 have HC:=LH (heap_alloc_new w (.cells #[.int .i64 0,.int .u16 0,.int .i64 0,.int .i64 0] 48))
 have HQ:=LH hq
 have HP:=LH (hP.grow HG.out)
 clear h hq hP
 go_enter Tryz.func43,Tryz.ntmps43
 go_wp2
 generalize w.alloc (.cells #[.int .i64 0,.int .u16 0,.int .i64 0,.int .i64 0] 48)=w1 at H HG HC HP ⊢
 obtain ⟨c0,c1,c2,c3,c4,c5,c6,c7,c8,c9,c10,c11,c12,c13,c14,c15,c16,c17,c18,c19,c20,cf⟩:=zH H.out
 refine zD [0,1,2,3,4,5,6,7,8,9,10] [9,10] [3,7] [10] rfl (by kernel_rfl) ?_
 iterate 3
  refine ord_p ?_
 refine ord_r (y:=by intro w' hg;have q:=hg.cell c6 (fun h=>h);go_simp;with_reducible rfl) (z:=?_)
 iterate 3
  refine ord_p ?_
 refine ord_r (y:=by intro w' hg;have q:=hg.cell c7 (fun h=>h);go_simp;with_reducible rfl) (z:=?_)
 refine ord_p ?_
 refine zl rfl rfl rfl rfl ?_ ?_ ?_ ?_ ?_ ?_
 rotate_left 3
 ·go_simp;first | with_reducible rfl | (constructor <;> with_reducible rfl)
 ·simp only [Act.put,pB,pC,pD];rfl
 refine zK rfl rfl rfl rfl ?_ ?_ (fun h=>absurd (by simp) h) ?_
 rotate_left
 ·go_simp;with_reducible rfl
 refine zF ?_
 have hga:=(Keep.refl NoB w1).drew.alloc (.cells #[.int .i64 0,.int .u16 0,.int .i64 0,.int .i64 0] 48)
 have hsz1:w.heap.size<w1.heap.size:=(gE HC.out).1
 have hga2:=((Keep.refl NoB w1).alloc (.cells #[.int .i64 d.phase,.int .u16 d.err,.int .i64 0,.int .i64 0] 48)).drew
 have HS:=LH (And.intro (show (w1.alloc (.cells #[.int .i64 d.phase,.int .u16 d.err,.int .i64 0,.int .i64 0] 48)).drew.heap[w1.heap.size]? = _ from heap_alloc_new w1 (.cells #[.int .i64 d.phase,.int .u16 d.err,.int .i64 0,.int .i64 0] 48)) hga2)
 obtain ⟨W2,hW2⟩:∃ W2,(w1.alloc (.cells #[.int .i64 d.phase,.int .u16 d.err,.int .i64 0,.int .i64 0] 48)).drew=W2:=⟨_,rfl⟩
 rw [hW2] at HS ⊢
 replace H:=LH (H.out.grow HS.out.2)
 replace HP:=LH (HP.out.grow HS.out.2)
 replace HG:=LH (HG.out.grow HS.out.2)
 replace HC:=LH (Grow.heap HS.out.2 HC.out)
 obtain ⟨N,hN⟩:∃ N,w1.heap.size=N:=⟨_,rfl⟩
 replace HS:=LH HS.out.1
 rw [hN] at HS hsz1 ⊢
 clear hga hga2 hW2 hN c0 c1 c2 c3 c4 c5 c6 c7 c8 c9 c10 c11 c12 c13 c14 c15 c16 c17 c18 c19 c20 cf
 obtain ⟨c0,c1,c2,c3,c4,c5,c6,c7,c8,c9,c10,c11,c12,c13,c14,c15,c16,c17,c18,c19,c20,cf⟩:=zH H.out
 rw [HQ.out] at c0
 go_wp2
 refine zD [0,1,2,3,6,7,8,9,4,5,12,10,11,13,14,15] [4,5,10,11,13,15] [3,9] [13,15] rfl (by kernel_rfl) ?_
 iterate 2
  iterate 3
   refine ord_p ?_
  refine ord_r (y:=by intro w' hg;have q:=hg.cell c0 (fun h=>h);go_simp;with_reducible rfl) (z:=?_)
 refine zG rfl rfl rfl rfl rfl Tryz.func117 rfl rfl [.pointer (some ⟨b,0,none⟩)] rfl ?_
 refine (zpA (HP.out.grow (Keep.refl NoB W2).drew)).mono ?_
 rintro ee w3 ⟨A3,c3',rfl,hg3,ho3⟩
 refine ⟨_,rfl,fun _=>hg3,?_⟩
 simp only [Act.put,pB,pC,pD]
 refine zG rfl rfl rfl rfl rfl Tryz.func116 rfl rfl [.slice A3 e.known.length c3'] rfl ?_
 refine (zoB A3 c3' e.known HP.out.ok.known HP.out.ok.few.2 w3 (SliceR.of_own ho3)).mono ?_
 rintro ee w4 ⟨rfl,rfl⟩
 refine ⟨_,rfl,fun _=>Keep.refl _ _,?_⟩
 simp only [Act.put,pB,pC,pD]
 refine ord_p ?_
 refine zG rfl rfl rfl rfl rfl Tryz.func118 rfl rfl [.pointer (some ⟨b,0,none⟩)] rfl ?_
 refine (zkA ((HP.out.grow (Keep.refl NoB W2).drew).grow hg3)).mono ?_
 rintro ee w4 ⟨A4,c4',rfl,hg4,ho4⟩
 refine ⟨_,rfl,fun _=>hg4,?_⟩
 simp only [Act.put,pB,pC,pD]
 refine zG rfl rfl rfl rfl rfl Tryz.func64 rfl rfl [.agg #[.int .u64 e.session,.slice A4 e.sz.length c4',.int .u32 (e.sum:Nat)]] rfl ?_
 refine (zd e.session e.sum A4 c4' e.sz w4 (SliceR.of_own ho4) HP.out.ok.fit).mono ?_
 rintro ee w5 ⟨rfl,hg5⟩
 refine ⟨_,rfl,fun _=>hg5,?_⟩
 simp only [Act.put,pB,pC,pD]
 have hgd:=(((Keep.refl NoB W2).drew.grow hg3).grow hg4).grow hg5
 replace HS:=LH (Grow.heap hgd HS.out)
 replace HC:=LH (Grow.heap hgd HC.out)
 replace HG:=LH (HG.out.grow hgd)
 clear hg3 hg4 hg5 ho3 ho4 hgd c0 c1 c2 c3 c4 c5 c6 c7 c8 c9 c10 c11 c12 c13 c14 c15 c16 c17 c18 c19 c20 cf
 obtain ⟨z0,z1,z2,z3,zf⟩:=zKA HS.out
 refine zK rfl rfl rfl rfl ?_ ?_ (fun h=>absurd (by simp) h) ?_
 rotate_left
 ·go_simp;with_reducible rfl
 refine ord_p ?_
 refine zK rfl rfl rfl rfl ?_ ?_ (fun h=>absurd (by simp) h) ?_
 rotate_left
 ·go_simp;with_reducible rfl
 refine zF ?_
 have hne:N≠w.heap.size:=by omega
 have e1:=zLB HS.out 2 (.int .i64 (popB e.known:Nat))
 have e2:=zLB e1 3 (.int .i64 (chunksN e.sz:Nat))
 have hk:=((Keep.refl (fun k=>k=N) w5).setCell (p:=⟨N,2,none⟩) (.inl rfl) (.int .i64 (popB e.known:Nat))).setCell (p:=⟨N,3,none⟩) (.inl rfl) (.int .i64 (chunksN e.sz:Nat))
 have hC:=(hk.block _ (gE HC.out).1 (fun e=>hne e.symm)).trans HC.out
 have hG2:=(HG.out.mono (T:=fun k=>k=N) (fun _ h=>h.elim)).trans hk (fun _ h=>.inl h)
 have hG3:Grow w _:=hG2.new (fun i e=>by rw [e];omega)
 have HR:=LH (zOE (.int .i64 d.phase) (.int .u16 d.err) (.int .i64 (popB e.known:Nat)) (.int .i64 (chunksN e.sz:Nat)) hG3 (Nat.le_refl _) hC)
 generalize ((w5.setCell ⟨N,2,none⟩ (.int .i64 (popB e.known:Nat))).setCell ⟨N,3,none⟩ (.int .i64 (chunksN e.sz:Nat)))=w6 at HR e2 hC ⊢
 clear z0 z1 z2 z3 zf hG2 hG3 hk e1
 obtain ⟨z0,z1,z2,z3,zf⟩:=zKA (a0:=.int .i64 d.phase) (a1:=.int .u16 d.err) (a2:=.int .i64 (popB e.known:Nat)) (a3:=.int .i64 (chunksN e.sz:Nat)) e2
 obtain ⟨y0,y1,y2,y3,yf⟩:=zKA hC
 clear e2 hC
 go_wp2
 obtain ⟨r0,r1,r2,r3,rf⟩:=zKA HR.out.1
 refine bodyPost_ret (v:=.agg #[.int .i64 d.phase,.int .u16 d.err,.int .i64 (popB e.known:Nat),.int .i64 (chunksN e.sz:Nat)]) ?_ rfl ⟨rfl,HR.out.2⟩
 rw [zT rfl];go_simp
end Go.Proofs.YtfkcpaahdlkcdaaGreat

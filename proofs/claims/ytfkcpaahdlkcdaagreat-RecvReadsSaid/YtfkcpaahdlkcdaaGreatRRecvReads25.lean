import Derived.Test.YtfkcpaahdlkcdaaGreatRRecvReads18
set_option linter.unusedSimpArgs false
set_option linter.unusedVariables false
set_option maxRecDepth 100000
set_option maxHeartbeats 16000000
namespace Go.Proofs.YtfkcpaahdlkcdaaGreat
open Go.RowKit
section
variable {P:Program} {ops:Array Oper} {Q:Exit→Act→World→Prop} {ds:List Nat} {S:Nat→Prop} {R:Act→World→Prop} {acts reads:List Nat} {rest:List Nat} {i:Nat} {o:Oper} {a:Act} {w:World}
theorem zpD {N:Option Tmp} (hl:ops.toList[i]? = some o) (ha:acts.contains i=true) (hN:o.dst=N) (hg:o.guard=none) (l c:Operand) (t:TypeId) (hop:o.op=Op.makeSlice t l c)
    (base:Nat) (e:TypeId) (z:Value) (size bytes:Nat) (h1:P.underlying t=some (.slice e)) (h2:(P.info? e).map (fun i=>(i.zero,i.size,i.bytes))=some (some z,size,bytes))
    (kl kc:IntKind) (L C:Int) (n:Nat) (hl':a.eval l=.int kl L) (hc':a.eval c=.int kc C) (hL:L=(n:Int)) (hC:C=(n:Int)) (b2:bytes*n≤281474976710656) (b3:n≤maxLen) (b4:base≤w.heap.size)
    (h:∀ w',w'.ownsRow base e size (.slice (some ⟨w.heap.size,0,none⟩) n n) n (madeCells z.cells (n*size)).toList→w.grownBy w' none→(i∉ds→Keep S w w')∧wpOrdC S P ops Q R acts reads ds rest (a.put N (.slice (some ⟨w.heap.size,0,none⟩) n n)) w') :
    wpOrdC S P ops Q R acts reads ds (i :: rest) a w:=by
 obtain ⟨ti,hi,q1,q2,q3⟩:=info_parts h2
 obtain ⟨w',hrun,r1,r2⟩:=run_make_full (P:=P) w base t e ti z size h1 hi q1 q2 kl kc n (by rw [q3];exact b2) b3 b4
 subst hL
 subst hC
 refine zmA hl ha (fun K hK=>?_)
 rw [if_pos (by simp [Region.wanted,hg])]
 subst hN
 unfold Oper.wp
 simp [execOp,hop,hl',hc',hrun,Result.andThen]
 exact hK _ _ (h w' r1 r2)
end
theorem RowsR.foot {k:IntKind} {a:List (List Int)} {v:Value} {w:World} (h:RowsR k a v w):Foot (RowsR k a v) w (fun j=>j<w.heap.size):=by
 refine ⟨fun j hj=>hj,fun W' hW=>?_⟩
 obtain ⟨A,c,rfl,hr⟩:=h
 have hcell:∀ p u,w.cell? p=some u→W'.cell? p=some u:=fun p u hc=>(World.cell?_of_block (w:=w) (hW p.block (World.block_lt_of_cell? _ _ hc))).trans hc
 refine ⟨A,c,rfl,fun i hi=>?_⟩
 obtain ⟨ad,A',c',e1,e2,e3⟩:=hr i hi
 refine ⟨ad,A',c',e1,hcell _ _ e2,?_⟩
 obtain ⟨A9,c9,f1,f2,f3,f4,f5⟩:=e3
 exact ⟨A9,c9,f1,f2,f3,f4,fun j u hu=>by obtain ⟨ad2,g1,g2⟩:=f5 j u hu;exact ⟨ad2,g1,hcell _ _ g2⟩⟩
end Go.Proofs.YtfkcpaahdlkcdaaGreat
namespace Go.Proofs.YtfkcpaahdlkcdaaGreat
open Go.RowKit
theorem zIL (x:Int) (h0:0≤x) (h1:x≤18446744073709551615):leW (putB x 8)=x:=by
 have e:putB x 8=[x%256,x/256%256,x/65536%256,x/16777216%256,x/4294967296%256,x/1099511627776%256,x/281474976710656%256,x/72057594037927936%256]:=by
  simp [putB,List.range,List.range.loop]
 rw [e]
 simp only [leW]
 omega
theorem zhE (x:Int) (ws:List Int):rB (x :: ws)=putB x 8++rB ws:=by simp [rB]
theorem ziE:∀ (ws:List Int) (j:Nat),(rB ws).drop (8*j)=rB (ws.drop j)
 | ws,0=>by simp
 | [],j+1=>by simp [rB]
 | x :: ws,j+1=>by
  rw [zhE,List.drop_succ_cons,← ziE ws j,show 8*(j+1)=(putB x 8).length+8*j by rw [zX];omega,List.drop_append,List.drop_of_length_le (by omega),List.nil_append]
  congr 1
  omega
theorem zjE:∀ (ws:List Int) (j:Nat),(rB ws).take (8*j)=rB (ws.take j)
 | ws,0=>by simp [rB]
 | [],j+1=>by simp [rB]
 | x :: ws,j+1=>by
  rw [zhE,List.take_succ_cons,zhE,← zjE ws j,show 8*(j+1)=(putB x 8).length+8*j by rw [zX];omega,List.take_append,List.take_of_length_le (by omega)]
  congr 2
  omega
theorem zCF (a:List (List Int)) (ho:OkA a) (i:Nat):chunkP a i=rB ((a.flatten.drop (8*i)).take 8):=by
 unfold chunkP pieceL
 rw [zCD a ho,show i*64=8*(8*i) by omega,ziE,show (64:Nat)=8*8 by rfl,zjE]
theorem zKE (a:List (List Int)) (ho:OkA a) (i:Nat):(chunkP a i).length=8*min 8 (a.flatten.length-8*i):=by
 rw [zCF a ho,zMB,List.length_take,List.length_drop]
theorem zLH (a:List (List Int)) (ho:OkA a) (i k:Nat) (hk:k<8) (hj:i*8+k<a.flatten.length):leW (pieceL (chunkP a i) 8 k)=a.flatten[i*8+k]:=by
 rw [zCF a ho]
 unfold pieceL
 have t8:∀ ws:List Int,(rB ws).take 8=rB (ws.take 1):=fun ws=>zjE ws 1
 rw [show k*8=8*k by omega,ziE,t8]
 have e:(((a.flatten.drop (8*i)).take 8).drop k).take 1=[a.flatten[i*8+k]]:=by
  apply List.ext_getElem
  ·simp only [List.length_take,List.length_drop,List.length_singleton];omega
  ·intro n h1 h2
   have h0:n=0:=by simpa using h2
   subst h0
   simp only [List.getElem_take,List.getElem_drop,List.getElem_singleton]
   congr 1
   omega
 rw [e]
 have hm:a.flatten[i*8+k]∈a.flatten:=List.getElem_mem hj
 obtain ⟨s,hs,hx⟩:=List.mem_flatten.1 hm
 have hb:=ho.nums s hs _ hx
 simp only [rB,List.flatMap_cons,List.flatMap_nil,List.append_nil]
 exact zIL _ hb.1 hb.2
theorem zVG (ws:List Int) (i:Nat) (bs:List Int):∀ (m j:Nat),j<ws.length→(setN ws i bs m).getD j 0=if i*8≤j∧j<i*8+m then leW (pieceL bs 8 (j-i*8)) else ws.getD j 0
 | 0,j,hj=>by rw [if_neg (by omega)];rfl
 | m + 1, j, hj => by
  have hl:j<(setN ws i bs m).length:=by rw [zNA];exact hj
  have ih:=zVG ws i bs m j hj
  simp only [setN]
  rw [List.getD_eq_getElem?_getD,List.getElem?_set]
  by_cases he:i*8+m=j
  ·rw [if_pos he,if_pos (by rw [zNA];omega),if_pos (by omega)]
   rw [Option.getD_some,show j-i*8=m by omega]
  ·rw [if_neg he,← List.getD_eq_getElem?_getD,ih]
   by_cases hc:i*8≤j∧j<i*8+m
   ·rw [if_pos hc,if_pos (by omega)]
   ·rw [if_neg hc,if_neg (by omega)]
def wordsK (fl kb:List Int):List Int:=(List.range fl.length).map (fun j=>if getB kb (j/8)=true then fl.getD j 0 else 0)
theorem zlA (fl kb:List Int):(wordsK fl kb).length=fl.length:=by simp [wordsK]
theorem zYC (fl kb:List Int) (j:Nat) (hj:j<fl.length):(wordsK fl kb).getD j 0=if getB kb (j/8)=true then fl.getD j 0 else 0:=by
 simp [wordsK,List.getD_eq_getElem?_getD,List.getElem?_map,List.getElem?_range,hj]
theorem zJL {a b:List Int} (hl:a.length=b.length) (h:∀ j,j<a.length→a.getD j 0=b.getD j 0):a=b:=by
 apply List.ext_getElem hl
 intro j h1 h2
 have:=h j h1
 rwa [List.getD_eq_getElem?_getD,List.getD_eq_getElem?_getD,List.getElem?_eq_getElem h1,List.getElem?_eq_getElem h2] at this
theorem zMH (fl:List Int) (n:Nat):wordsK fl (makeB n)=List.replicate fl.length 0:=by
 apply List.ext_getElem (by simp [wordsK])
 intro j h1 h2
 simp [wordsK,zwC]
theorem zLE {fl kb:List Int} (h:∀ i,i<(fl.length+7)/8→getB kb i=true):wordsK fl kb=fl:=by
 apply List.ext_getElem (zlA _ _)
 intro j h1 h2
 have:=h (j/8) (by omega)
 simp [wordsK,this,List.getD_eq_getElem?_getD,h2]
theorem zdI (a:List (List Int)) (ho:OkA a) (kb:List Int) (i:Nat) (hk:i/8<kb.length):setN (wordsK a.flatten kb) i (chunkP a i) ((chunkP a i).length/8)=wordsK a.flatten (setB kb i):=by
 apply zJL (by rw [zNA,zlA,zlA])
 intro j hj
 rw [zNA,zlA] at hj
 rw [zVG _ _ _ _ _ (by rw [zlA];exact hj),zYC _ _ _ hj,zYC _ _ _ hj,zXB,zKE a ho]
 by_cases hc:j/8=i
 ·rw [if_pos (by omega)]
  have hd:decide (j/8=i∧i/8<kb.length)=true:=decide_eq_true ⟨hc,hk⟩
  rw [hd,Bool.true_or,if_pos rfl,zLH a ho i (j-i*8) (by omega) (by omega)]
  have e:i*8+(j-i*8)=j:=by omega
  simp only [e]
  rw [List.getD_eq_getElem?_getD,List.getElem?_eq_getElem hj,Option.getD_some]
 ·rw [if_neg (by omega)]
  have hd:decide (j/8=i∧i/8<kb.length)=false:=decide_eq_false (fun h=>hc h.1)
  rw [hd,Bool.false_or]
theorem zgC (p:Nat→Bool):∀ n,(List.range (8*n)).filter p=(List.range n).flatMap (fun k=>((List.range 8).filter (fun j=>p (k*8+j))).map (fun j=>k*8+j))
 | 0=>by simp
 | n+1=>by
  rw [show 8*(n+1)=8*n+8 by omega,List.range_add,List.filter_append,zgC p n,show List.range (n+1)=List.range n++[n] from List.range_succ,List.flatMap_append]
  congr 1
  simp only [List.flatMap_cons,List.flatMap_nil,List.append_nil,List.filter_map]
  rw [show 8*n=n*8 by omega]
  rfl
theorem zKL (bs:List Int):eachL bs=(List.range (8*bs.length)).filter (getB bs):=by
 rw [zgC]
 unfold eachL bitL
 congr 1
 funext k
 congr 1
 apply List.filter_congr
 intro j hj
 have hj8:j<8:=List.mem_range.1 hj
 unfold getB
 rw [show (k*8+j)/8=k by omega,show (k*8+j)%8=j by omega]
structure BitsOk (kb:List Int) (q:Nat):Prop where
 ok:OkB kb
 len:kb.length=(q+7)/8
 out:∀ i,q≤i→getB kb i=false
theorem BitsOk.make (q:Nat):BitsOk (makeB q) q:=⟨OkB.make q,zQB q,fun i _=>zwC q i⟩
theorem BitsOk.set {kb:List Int} {q:Nat} (h:BitsOk kb q) {i:Nat} (hi:i<q):BitsOk (setB kb i) q:=by
 refine ⟨h.ok.set i,by rw [zCC];exact h.len,fun j hj=>?_⟩
 rw [zXB,h.out j hj,decide_eq_false (by omega)]
 rfl
theorem BitsOk.pop {kb:List Int} {q:Nat} (h:BitsOk kb q):popB kb=((List.range q).filter (getB kb)).length:=by
 unfold popB
 rw [zKL,h.len]
 have hq:8*((q+7)/8)=q+(8*((q+7)/8)-q):=by omega
 rw [hq,List.range_add,List.filter_append,List.length_append]
 have:((List.range (8*((q+7)/8)-q)).map (q+·)).filter (getB kb)=[]:=by
  rw [List.filter_eq_nil_iff]
  intro x hx
  obtain ⟨y,_,rfl⟩:=List.mem_map.1 hx
  rw [h.out _ (by omega)]
  simp
 rw [this]
 rfl
theorem BitsOk.pop_le {kb:List Int} {q:Nat} (h:BitsOk kb q):popB kb≤q:=by
 rw [h.pop]
 have:=List.length_filter_le (getB kb) (List.range q)
 rwa [List.length_range] at this
theorem BitsOk.full {kb:List Int} {q:Nat} (h:BitsOk kb q):q≤popB kb↔∀ i,i<q→getB kb i=true:=by
 rw [h.pop]
 constructor
 ·intro hq i hi
  have hl:=List.length_filter_le (getB kb) (List.range q)
  rw [List.length_range] at hl
  have he:((List.range q).filter (getB kb)).length=(List.range q).length:=by rw [List.length_range];omega
  have:=List.length_filter_eq_length_iff.1 he
  exact this i (List.mem_range.2 hi)
 ·intro hall
  rw [List.filter_eq_self.2 (fun i hi=>hall i (List.mem_range.1 hi)),List.length_range]
  exact Nat.le_refl _
theorem ziC (A:Option Addr) (c:Nat) (l:List Int) (w:World) (h:SliceR 1 (.slice A l.length c) l.length (ints l) w) (hb:∀ x∈l,0≤x∧x≤100000) (seg at_ n:Int) :
    Calls Tryz.prog 257 #[.slice A l.length c,.int .i64 seg,.int .i64 at_,.int .i64 n] w fun e w'=>e=.returned (.bool (withinB l seg at_ n))∧w=w':=by
 have H:=LH h
 have HB:=LH hb
 clear h hb
 by_cases h0:0≤seg
 case neg =>
  have HF:Hid (withinB l seg at_ n=false):=decide_eq_false (fun ⟨g,_⟩=>by omega)
  go_enter Tryz.func257,Tryz.ntmps257
  go_wp2
  go_ret
  exact ⟨by rw [HF.out];rfl,rfl⟩
 by_cases h1:seg<l.length
 case neg =>
  have HF:Hid (withinB l seg at_ n=false):=decide_eq_false (fun ⟨_,g,_⟩=>by omega)
  go_enter Tryz.func257,Tryz.ntmps257
  go_wp2
  go_ret
  exact ⟨by rw [HF.out];rfl,rfl⟩
 by_cases h2:0≤at_
 case neg =>
  have HF:Hid (withinB l seg at_ n=false):=decide_eq_false (fun ⟨_,_,g,_⟩=>by omega)
  go_enter Tryz.func257,Tryz.ntmps257
  go_wp2
  go_ret
  exact ⟨by rw [HF.out];rfl,rfl⟩
 by_cases h3:0≤n
 case neg =>
  have HF:Hid (withinB l seg at_ n=false):=decide_eq_false (fun ⟨_,_,_,g,_⟩=>by omega)
  go_enter Tryz.func257,Tryz.ntmps257
  go_wp2
  go_ret
  exact ⟨by rw [HF.out];rfl,rfl⟩
 obtain ⟨k,rfl⟩:∃ k:Nat,seg=k:=⟨seg.toNat,by omega⟩
 have hk:k<l.length:=by omega
 obtain ⟨ad,rfl,q0⟩:=SliceR.int_at (k:=.i64) H.out k hk
 have hgd:l.getD k 0=l[k]:=by simp [List.getD_eq_getElem?_getD,List.getElem?_eq_getElem hk]
 obtain ⟨b0,b1⟩:=HB.out _ (List.getElem_mem hk)
 by_cases h4:at_≤l[k]
 case neg =>
  have HF:Hid (withinB l k at_ n=false):=decide_eq_false (fun ⟨_,_,_,_,g⟩=>by rw [Int.toNat_natCast,hgd] at g;omega)
  clear hgd
  go_enter Tryz.func257,Tryz.ntmps257
  go_wp2
  go_ret
  exact ⟨by rw [HF.out];rfl,rfl⟩
 have hw:IntKind.i64.wrap (l[k]-at_)=l[k]-at_:=IntWalk.i64_in _ (by omega)
 by_cases h5:n≤l[k]-at_
 ·have HF:Hid (withinB l k at_ n=true):=decide_eq_true ⟨by omega,by omega,by omega,by omega,by rw [Int.toNat_natCast,hgd];omega⟩
  clear hgd
  go_enter Tryz.func257,Tryz.ntmps257
  go_wp2
  go_ret
  exact ⟨by rw [HF.out];rfl,rfl⟩
 ·have HF:Hid (withinB l k at_ n=false):=decide_eq_false (fun ⟨_,_,_,_,g⟩=>by rw [Int.toNat_natCast,hgd] at g;omega)
  clear hgd
  go_enter Tryz.func257,Tryz.ntmps257
  go_wp2
  go_ret
  exact ⟨by rw [HF.out];rfl,rfl⟩
theorem zyJ {a:List (List Int)} (ho:OkA a):∀ x∈szs a,0≤x∧x≤100000:=fun x hx=>by
 obtain ⟨s,hs,rfl⟩:=List.mem_map.1 hx
 have:=ho.words s hs
 omega
theorem zPD {a:List (List Int)} {seg at_:Int} (h:withinB (szs a) seg at_ 1=false):wordA a seg at_=(0,20):=by
 refine zmB (fun ⟨h0,h1,h2,h3⟩=>?_)
 have:withinB (szs a) seg at_ 1=true:=by
  obtain ⟨k,rfl⟩:∃ k:Nat,seg=k:=⟨seg.toNat,by omega⟩
  have hk:k<a.length:=by omega
  refine decide_eq_true ⟨h0,by rw [zo];exact h1,h2,by omega,?_⟩
  rw [Int.toNat_natCast] at h3 ⊢
  have e1:a.getD k []=a[k]:=by simp [List.getD_eq_getElem?_getD,List.getElem?_eq_getElem hk]
  have e2:(szs a).getD k 0=a[k].length:=by simp [szs,List.getD_eq_getElem?_getD,List.getElem?_eq_getElem hk]
  rw [e1] at h3
  rw [e2]
  omega
 rw [h] at this
 cases this
theorem zRH (a:List (List Int)) (ho:OkA a) (A:Option Addr) (c:Nat) (w:World) (h:RowsR .u64 a (.slice A a.length c) w) (seg at_:Int) :
    Calls Tryz.prog 248 #[.slice A a.length c,.int .i64 seg,.int .i64 at_] w fun e w'=>e=.returned (.tuple #[.int .u64 (wordA a seg at_).1,.int .i64 (wordA a seg at_).2])∧Grow w w':=by
 have HS:=LH (zvA a A c w h ho.segs)
 have HBD:=LH (zyJ ho)
 have H:=LH h
 clear h ho
 go_enter Tryz.func248,Tryz.ntmps248
 go_wp2_with fail
 refine HS.out.mono ?_
 rintro e w1 ⟨A1,c1,rfl,hg,hown⟩
 have HG:=LH hg
 have HO:=LH (SliceR.of_own hown)
 replace H:=LH (H.out.grow hg)
 clear hg hown HS
 go_wp2_with fail
 refine (ziC A1 c1 (szs a) w1 HO.out HBD.out seg at_ 1).mono ?_
 rintro e w2 ⟨rfl,rfl⟩
 rcases hb:withinB (szs a) seg at_ 1 with _ | _
 ·have HF:=LH (zPD hb)
  clear hb
  go_wp2
  go_ret2
  rw [HF.out]
  exact ⟨rfl,HG.out⟩
 ·unfold withinB at hb
  rw [decide_eq_true_eq] at hb
  obtain ⟨h0,h1,h2,_,h3⟩:=hb
  obtain ⟨k,rfl⟩:∃ k:Nat,seg=k:=⟨seg.toNat,by omega⟩
  obtain ⟨i,rfl⟩:∃ i:Nat,at_=i:=⟨at_.toNat,by omega⟩
  rw [zo] at h1
  have hk:k<a.length:=by omega
  have e2:(szs a).getD k 0=a[k].length:=by simp [szs,List.getD_eq_getElem?_getD,List.getElem?_eq_getElem hk]
  rw [Int.toNat_natCast,e2] at h3
  have hi:i<a[k].length:=by omega
  obtain ⟨ad,A',c',rfl,q0,hs⟩:=H.out.at_ k hk
  obtain ⟨ad2,rfl,q1⟩:=SliceR.int_at (k:=.u64) hs i hi
  have hgd:a.getD k []=a[k]:=by simp [List.getD_eq_getElem?_getD,List.getElem?_eq_getElem hk]
  have HF:Hid (wordA a k i=(a[k][i],0)):=by
   show _=_
   unfold wordA
   rw [if_pos ⟨by omega,by omega,by omega,by rw [Int.toNat_natCast,hgd];omega⟩,Int.toNat_natCast,hgd,Int.toNat_natCast]
   simp [List.getD_eq_getElem?_getD,List.getElem?_eq_getElem hi]
  have hk':(k:Int)<a.length:=by omega
  have hi':(i:Int)<a[k].length:=by omega
  clear hgd hs h0 h1 h2 h3 e2
  go_wp2
  go_ret2
  rw [HF.out]
  exact ⟨rfl,HG.out⟩
theorem zqA (a:List (List Int)) (ho:OkA a) (A:Option Addr) (c:Nat) (w:World) (h:RowsR .u64 a (.slice A a.length c) w) (seg at_:Int) :
    Calls Tryz.prog 208 #[.agg #[.slice A a.length c,qL,qI],.int .i64 seg,.int .i64 at_] w fun e w'=>e=.returned (.tuple #[.int .u64 (wordA a seg at_).1,.int .i64 (wordA a seg at_).2])∧Grow w w':=by
 have hga:=(Keep.refl NoB w).alloc (.cells #[.slice A a.length c,qL,qI] 186)
 have HG:=LH hga
 have HC:=LH (heap_alloc_new w (.cells #[.slice A a.length c,qL,qI] 186))
 have HW:=LH (zRH a ho A c _ (h.grow hga) seg at_)
 obtain ⟨m0,m1,m2,mf⟩:=zI HC.out
 clear h ho hga
 generalize hR:wordA a seg at_=R at *
 clear hR
 obtain ⟨x,e9⟩:=R
 go_enter Tryz.func208,Tryz.ntmps208
 go_wp2_with fail
 refine HW.out.mono ?_
 rintro e w1 ⟨rfl,hg⟩
 replace HG:=LH (HG.out.grow hg)
 replace HC:=LH (Grow.heap hg HC.out)
 clear hg m0 m1 m2 mf
 obtain ⟨m0,m1,m2,mf⟩:=zI HC.out
 by_cases he:e9=0
 ·have heb:(e9==0)=true:=by simp [he]
  clear he
  go_wp2
  go_ret2
  exact ⟨rfl,HG.out⟩
 ·have heb:(e9==0)=false:=by simpa using he
  clear he
  go_wp2
  go_ret2
  exact ⟨rfl,HG.out⟩
def QWordsPost (p:Pt) (w:World) (e:Ending) (w':World):Prop:=e=.returned (.tuple #[.int .i64 (ptrWords p).1,.int .i64 (ptrWords p).2])∧Grow w w'
theorem zQD (p:Pt) (w:World) (hp:PtOk p):Calls Tryz.prog 228 #[.agg p.cs] w (QWordsPost p w):=by
 have hg:=(Keep.refl NoB w).alloc (.cells p.cs 120)
 have hd:=heap_alloc_new w (.cells p.cs 120)
 have hdat:=hp.d
 have hptr:=hp.q
 have hcnt:=hp.c
 obtain ⟨kind,off,data,ptrs,size,count,seg,dbl⟩:=p
 simp only [Pt.cs] at hg hd hdat hptr hcnt ⊢
 obtain ⟨c0,c1,c2,c3,c4,c5,c6,c7,cf⟩:=zP hd
 have Hg:=LH hg
 clear hg hd hp
 by_cases k0:kind=0
 ·subst k0
  go_enter Tryz.func228,Tryz.ntmps228
  go_wp2
  go_ret2
  exact ⟨rfl,Hg.out⟩
 have k0b:(kind==0)=false:=beq_eq_false_iff_ne.2 k0
 by_cases k1:kind=1
 ·subst k1
  clear k0
  go_enter Tryz.func228,Tryz.ntmps228
  go_wp2
  go_ret2
  exact ⟨rfl,Hg.out⟩
 have k1b:(kind==1)=false:=beq_eq_false_iff_ne.2 k1
 by_cases k3:kind=3
 ·subst k3
  clear k0 k1
  cases dbl
  all_goals
   go_enter Tryz.func228,Tryz.ntmps228
   go_wp2
   go_ret2
   exact ⟨rfl,Hg.out⟩
 have k3b:(kind==3)=false:=beq_eq_false_iff_ne.2 k3
 by_cases k2:kind=2
 ·subst k2
  clear k0 k1 k3
  by_cases s2:size=2
  ·subst s2
   go_enter Tryz.func228,Tryz.ntmps228
   go_wp2
   go_ret2
   refine ⟨?_,Hg.out⟩
   simp [ptrWords]
  have s2b:(size==2)=false:=beq_eq_false_iff_ne.2 s2
  by_cases s5:size=5
  ·subst s5
   clear s2
   go_enter Tryz.func228,Tryz.ntmps228
   go_wp2
   go_ret2
   exact ⟨rfl,Hg.out⟩
  have s5b:(size==5)=false:=beq_eq_false_iff_ne.2 s5
  by_cases s6:size=6
  ·subst s6
   clear s2 s5
   go_enter Tryz.func228,Tryz.ntmps228
   go_wp2
   go_ret2
   exact ⟨rfl,Hg.out⟩
  have s6b:(size==6)=false:=beq_eq_false_iff_ne.2 s6
  have E:Hid (ptrWords ⟨2,off,data,ptrs,size,count,seg,dbl⟩=(0,23)):=by
   refine LH ?_
   simp [ptrWords,s2,s5,s6]
  clear s2 s5 s6
  go_enter Tryz.func228,Tryz.ntmps228
  go_wp2
  go_ret2
  exact ⟨by rw [E.out];rfl,Hg.out⟩
 have k2b:(kind==2)=false:=beq_eq_false_iff_ne.2 k2
 have E:Hid (ptrWords ⟨kind,off,data,ptrs,size,count,seg,dbl⟩=(0,23)):=by
  refine LH ?_
  simp [ptrWords,k0,k1,k2,k3]
 clear k0 k1 k2 k3
 go_enter Tryz.func228,Tryz.ntmps228
 go_wp2
 go_ret2
 exact ⟨by rw [E.out];rfl,Hg.out⟩
theorem zRA (o:Ob) (w:World) (ho:ObOk o):Calls Tryz.prog 174 #[.agg o.cs] w fun e w'=>e=.returned (.int .i64 (obWords o))∧Grow w w':=by
 have hg:=(Keep.refl NoB w).alloc (.cells o.cs 257)
 have hd:=heap_alloc_new w (.cells o.cs 257)
 have Hg:=LH hg
 have HO:=LH ho
 obtain ⟨c0,c1,c2,c3,c4,c5,c6,cf⟩:=zC (show (w.alloc (.cells o.cs 257)).heap[w.heap.size]? = some (.cells o 257 (0,0)) from hd)
 simp only [Ob.cs] at c0 c1 c2 c3 c4 c5 c6 cf Hg ⊢
 clear hg hd ho
 by_cases k3:o.kind=3
 ·have E:Hid (obWords o=0):=LH (by simp [obWords,k3])
  have k3b:(o.kind==3)=true:=beq_iff_eq.2 k3
  clear k3
  go_enter Tryz.func174,Tryz.ntmps174
  go_wp2
  go_ret
  exact ⟨by rw [E.out];rfl,Hg.out⟩
 ·have E:Hid (obWords o=(ptrWords (obP o)).1):=LH (by simp [obWords,k3])
  have k3b:(o.kind==3)=false:=beq_eq_false_iff_ne.2 k3
  clear k3
  go_enter Tryz.func174,Tryz.ntmps174
  go_wp2_with fail
  refine (show Calls Tryz.prog 228 #[.agg #[o.kind,qJ,.int .i64 o.data,.int .i64 o.ptrs,o.size,.int .i64 o.count,qJ,qL]] _ (QWordsPost (obP o) _) from zQD (obP o) _ (zxD HO.out)).mono ?_
  rintro e w2 ⟨rfl,hg2⟩
  have Hg2:=LH (Hg.out.grow hg2)
  clear hg2
  go_wp2
  go_ret
  exact ⟨by rw [E.out];rfl,Hg2.out⟩
theorem zJC (p:Pt) (w:World):Calls Tryz.prog 224 #[.agg p.cs] w fun e w'=>e=.returned (.bool (isNear p))∧Grow w w':=by
 have hd:=heap_alloc_new w (.cells p.cs 120)
 have Hg:=LH ((Keep.refl NoB w).alloc (.cells p.cs 120))
 obtain ⟨c0,c1,c2,c3,c4,c5,c6,c7,cf⟩:=zP (show (w.alloc (.cells p.cs 120)).heap[w.heap.size]? = some (.cells p 120 (0,0)) from hd)
 simp only [Pt.cs] at c0 c1 c2 c3 c4 c5 c6 c7 cf Hg ⊢
 clear hd
 by_cases k1:p.kind=1
 ·have E:Hid (isNear p=true):=LH (by simp [isNear,k1])
  have k1b:(p.kind==1)=true:=beq_iff_eq.2 k1
  clear k1
  go_enter Tryz.func224,Tryz.ntmps224
  go_wp2
  go_ret
  exact ⟨by rw [E.out];rfl,Hg.out⟩
 ·have E:Hid (isNear p=(p.kind==2)):=LH (by simp [isNear,k1])
  have k1b:(p.kind==1)=false:=beq_eq_false_iff_ne.2 k1
  clear k1
  go_enter Tryz.func224,Tryz.ntmps224
  go_wp2
  go_ret
  exact ⟨by rw [E.out];rfl,Hg.out⟩
def QObPost (o:Ob) (w:World) (e:Ending) (w':World):Prop:=e=.returned (.agg o)∧Grow w w'
theorem zSB (p:Pt) (seg at_:Int) (w:World):Calls Tryz.prog 226 #[.agg p,.int .i64 seg,.int .i64 at_] w (QObPost (obOf p seg at_) w):=by
 have hga:=(Keep.refl NoB w).alloc (.cells p 120)
 have hgb:=hga.alloc (.cells #[.int .i64 p.kind,.int .i64 seg,.int .i64 at_,.int .i64 p.data,.int .i64 p.ptrs,.int .i64 p.size,.int .i64 p.count] 257)
 have h1:=zU w (.cells p 120) (.cells () 257)
 obtain ⟨c0,c1,c2,c3,c4,c5,c6,c7,cf⟩:=zP h1.1
 have h2:=zU w (.cells p 120) (.cells #[.int .i64 p.kind,.int .i64 seg,.int .i64 at_,.int .i64 p.data,.int .i64 p.ptrs,.int .i64 p.size,.int .i64 p.count] 257)
 have HC:=LH h2.2.1
 have HG:=LH hgb
 clear hga hgb h1 h2
 go_enter Tryz.func226,Tryz.ntmps226
 go_wp2
 obtain ⟨z0,z1,z2,z3,z4,z5,z6,zf⟩:=zC HC.out
 refine bodyPost_ret (v:=.agg #[.int .i64 p.kind,.int .i64 seg,.int .i64 at_,.int .i64 p.data,.int .i64 p.ptrs,.int .i64 p.size,.int .i64 p.count]) ?_ rfl ⟨rfl,HG.out⟩
 rw [zO rfl];go_simp
def QPAPost (wd:Int→Int→Int×Int) (seg at_:Int) (w:World) (e:Ending) (w':World):Prop:=e=.returned (.tuple #[.agg (ptrAt wd seg at_).1,.int .i64 (ptrAt wd seg at_).2])∧Grow w w'
theorem zPE (a:List (List Int)) (ho:OkA a) (A:Option Addr) (c:Nat) (w:World) (h:RowsR .u64 a (.slice A a.length c) w) (seg at_:Int):Calls Tryz.prog 223 #[.agg #[.slice A a.length c,qL,qI],.int .i64 seg,.int .i64 at_] w (QPAPost (wordA a) seg at_ w):=by
 have hga:=(Keep.refl NoB w).alloc (.cells #[.slice A a.length c,qL,qI] 186)
 have hgb:=hga.alloc (.cells qB 120)
 have h2:=zU w (.cells #[.slice A a.length c,qL,qI] 186) (.cells qB 120)
 have HZ:=LH h2.2.1
 obtain ⟨m0,m1,m2,mf⟩:=zI h2.1
 have HG:=LH hgb
 have HW:=LH (zqA a ho A c _ (h.grow hgb) seg at_)
 have HV:=LH ((zi ho).val seg at_)
 have E0:Hid (ptrAt (wordA a) seg at_=if (wordA a seg at_).2=0 then ptrDec (wordA a seg at_).1 else (pt0,(wordA a seg at_).2)):=LH rfl
 have HP:Hid (∀ e w',(e=.returned (.tuple #[.agg (ptrAt (wordA a) seg at_).1,.int .i64 (ptrAt (wordA a) seg at_).2])∧Grow w w')→QPAPost (wordA a) seg at_ w e w'):=LH (fun _ _ h=>h)
 generalize ptrAt (wordA a) seg at_=RP at E0 HP
 generalize QPAPost (wordA a) seg at_ w=QP at HP ⊢
 generalize wordA a seg at_=X at *
 obtain ⟨x,er⟩:=X
 clear h ho hga hgb h2
 go_enter Tryz.func223,Tryz.ntmps223
 go_wp2_with fail
 refine HW.out.mono ?_
 rintro e w1 ⟨rfl,hg⟩
 replace HG:=LH (HG.out.grow hg)
 replace HZ:=LH (Grow.heap hg HZ.out)
 clear hg m0 m1 m2 mf HW
 by_cases he:er=0
 ·have heb:(er != 0)=false:=by simp [he]
  replace E0:=LH (E0.out.trans (if_pos he))
  clear he
  have hv:=HV.out
  go_wp2_with fail
  refine (zcA x _ hv.1 hv.2).mono ?_
  rintro e w2 ⟨rfl,hg⟩
  rw [← E0.out]
  have hgc:=(Keep.refl NoB w2).alloc (.cells RP.1 120)
  replace HG:=LH (HG.out.grow (hg.grow hgc))
  have hz2:=Grow.heap hg HZ.out
  have hne:w2.heap.size≠w.heap.size+1:=by have:=(gE hz2).1;omega
  have hne2:w.heap.size+1≠w2.heap.size:=fun e=>hne e.symm
  replace HZ:=LH (Grow.heap hgc hz2)
  obtain ⟨c0,c1,c2,c3,c4,c5,c6,c7,cf⟩:=zP (heap_alloc_new w2 (.cells RP.1 120))
  clear hg hgc hz2 hv heb
  obtain ⟨y0,y1,y2,y3,y4,y5,y6,y7,yf⟩:=zP HZ.out
  go_wp2
  refine ret8 HG.out (Nat.le_succ _) HZ.out (fun w' z0 z1 z2 z3 z4 z5 z6 z7 zf=>?_) rfl (fun w' hg=>(HP.out _ _ ⟨rfl,hg⟩))
  rw [results_cell_tmp rfl];go_simp
 ·have heb:(er != 0)=true:=by simp [he]
  replace E0:=LH (E0.out.trans (if_neg he))
  clear he
  obtain ⟨y0,y1,y2,y3,y4,y5,y6,y7,yf⟩:=zP HZ.out
  go_wp2
  refine ret8 HG.out (Nat.le_succ _) HZ.out (fun w' z0 z1 z2 z3 z4 z5 z6 z7 zf=>?_) rfl (fun w' hg=>(HP.out _ _ ⟨by rw [E0.out];rfl,hg⟩))
  rw [results_cell_tmp rfl];go_simp
def foundO (sz:List Int) (o:Ob):Ob×Int :=
 if (ptrWords (obP o)).2=0 then if withinB sz o.seg o.at_ (ptrWords (obP o)).1 then (o,0) else (ob0,20) else (ob0,(ptrWords (obP o)).2)
theorem zEK (sz:List Int) (p:Pt) (seg at_:Int):foundP sz p seg at_=foundO sz (obOf p seg at_):=rfl
def QFPost (r:Ob×Int) (w:World) (e:Ending) (w':World):Prop:=e=.returned (.tuple #[.agg r.1,.int .i64 r.2])∧Grow w w'
theorem zIA (a:List (List Int)) (ho:OkA a) (A:Option Addr) (c:Nat) (w:World) (h:RowsR .u64 a (.slice A a.length c) w) (o:Ob) (hk:ObOk o):Calls Tryz.prog 225 #[.agg #[.slice A a.length c,qL,qI],.agg o] w (QFPost (foundO (szs a) o) w):=by
 have hga:=(Keep.refl NoB w).alloc (.cells #[.slice A a.length c,qL,qI] 186)
 have hgb:=hga.alloc (.cells o 257)
 have hgc:=hgb.alloc (.cells () 257)
 have h2:=zU w (.cells #[.slice A a.length c,qL,qI] 186) (.cells o 257)
 have hsz2:((w.alloc (.cells #[.slice A a.length c,qL,qI] 186)).alloc (.cells o 257)).heap.size=w.heap.size+2:=by simp
 have hz:=heap_alloc_new ((w.alloc (.cells #[.slice A a.length c,qL,qI] 186)).alloc (.cells o 257)) (.cells () 257)
 rw [hsz2] at hz
 have HZ:=LH hz
 have hgl:=(Keep.refl NoB ((w.alloc (.cells #[.slice A a.length c,qL,qI] 186)).alloc (.cells o 257))).alloc (.cells () 257)
 have HS:=LH (Grow.heap hgl h2.1)
 have HO:=LH (Grow.heap hgl h2.2.1)
 have HG:=LH hgc
 have H:=LH (h.grow hgc)
 have HA:=LH ho
 have HK:=LH hk
 obtain ⟨m0,m1,m2,mf⟩:=zI HS.out
 obtain ⟨d0,d1,d2,d3,d4,d5,d6,df⟩:=zC HO.out
 clear h ho hk hga hgb hgc h2 hsz2 hz hgl
 have E0:Hid (foundO (szs a) o=if (ptrWords (obP o)).2=0 then if withinB (szs a) o.seg o.at_ (ptrWords (obP o)).1 then (o,0) else (ob0,20) else (ob0,(ptrWords (obP o)).2)):=LH rfl
 have HQW:=LH (fun w'=>zQD (obP o) w' (zxD HK.out))
 go_enter Tryz.func225,Tryz.ntmps225
 go_wp2_with fail
 refine (HQW.out _).mono ?_
 rintro e w1 ⟨rfl,hg⟩
 replace HZ:=LH (Grow.heap hg HZ.out)
 replace HS:=LH (Grow.heap hg HS.out)
 replace HO:=LH (Grow.heap hg HO.out)
 replace HG:=LH (HG.out.grow hg)
 replace H:=LH (H.out.grow hg)
 clear hg m0 m1 m2 mf d0 d1 d2 d3 d4 d5 d6 df HQW
 generalize ptrWords (obP o)=X at *
 obtain ⟨n,er⟩:=X
 by_cases he:er=0
 case neg =>
  have heb:(er != 0)=true:=by simp [he]
  replace E0:=LH (E0.out.trans (if_neg he))
  clear he
  obtain ⟨y0,y1,y2,y3,y4,y5,y6,yf⟩:=zC HZ.out
  go_wp2
  refine ret7 HG.out (by omega) HZ.out (fun w' z0 z1 z2 z3 z4 z5 z6 zf=>?_) rfl (fun w' hg=>⟨by rw [E0.out];rfl,hg⟩)
  rw [results_cell_tmp rfl];go_simp
 have heb:(er != 0)=false:=by simp [he]
 replace E0:=LH (E0.out.trans (if_pos he))
 clear he
 obtain ⟨m0,m1,m2,mf⟩:=zI HS.out
 obtain ⟨d0,d1,d2,d3,d4,d5,d6,df⟩:=zC HO.out
 go_wp2
 refine zE [0,1,3,4,5,6,7,2,8,9] [2,8] [1,4,6] [] rfl (by kernel_rfl) ?_
 refine ord_p ?_
 refine oc1 m0 ?_
 refine ord_p ?_
 refine oc1 d1 ?_
 refine ord_p ?_
 refine oc1 d2 ?_
 refine ord_p ?_
 refine zG rfl rfl rfl rfl rfl Tryz.func70 rfl rfl [.slice A a.length c] rfl ?_
 refine (zvA a A c _ (H.out.grow (Keep.refl NoB w1).drew) HA.out.segs).mono ?_
 rintro e w2 ⟨A2,c2,rfl,hg,hown⟩
 refine ⟨_,rfl,fun _=>hg,?_⟩
 have hg2:=(Keep.refl NoB w1).drew.grow hg
 have HSR:=LH (SliceR.of_own hown)
 replace HZ:=LH (Grow.heap hg2 HZ.out)
 replace HO:=LH (Grow.heap hg2 HO.out)
 replace HG:=LH (HG.out.grow hg2)
 clear hg hg2 hown m0 m1 m2 mf d0 d1 d2 d3 d4 d5 d6 df
 simp only [Act.put,pB,pC,pD]
 refine zG rfl rfl rfl rfl rfl Tryz.func257 rfl rfl [.slice A2 (szs a).length c2,.int .i64 o.seg,.int .i64 o.at_,.int .i64 n] rfl ?_
 refine (ziC A2 c2 (szs a) w2 HSR.out (zyJ HA.out) o.seg o.at_ n).mono ?_
 rintro e w3 ⟨rfl,rfl⟩
 rcases hb:withinB (szs a) o.seg o.at_ n with _ | _
 ·rw [hb,if_neg (by simp)] at E0
  clear hb
  refine ⟨_,rfl,fun _=>Keep.refl _ _,?_⟩
  simp only [Act.put,pB,pC,pD]
  refine ord_p ?_
  refine zD ?_
  obtain ⟨y0,y1,y2,y3,y4,y5,y6,yf⟩:=zC HZ.out
  go_wp2
  refine ret7 HG.out (by omega) HZ.out (fun w' z0 z1 z2 z3 z4 z5 z6 zf=>?_) rfl (fun w' hg=>⟨by rw [E0.out];rfl,hg⟩)
  rw [results_cell_tmp rfl];go_simp
 ·rw [hb,if_pos rfl] at E0
  clear hb
  refine ⟨_,rfl,fun _=>Keep.refl _ _,?_⟩
  simp only [Act.put,pB,pC,pD]
  refine ord_p ?_
  refine zD ?_
  obtain ⟨d0,d1,d2,d3,d4,d5,d6,df⟩:=zC HO.out
  obtain ⟨y0,y1,y2,y3,y4,y5,y6,yf⟩:=zC HZ.out
  go_wp2
  refine ret7 HG.out (by omega) HZ.out (fun w' z0 z1 z2 z3 z4 z5 z6 zf=>?_) rfl (fun w' hg=>⟨by rw [E0.out],hg⟩)
  rw [results_cell_tmp rfl];go_simp
def twiceO (wd : Int → Int → Int × Int) (p : Pt) : Ob × Int :=
 if (wd p.seg p.off).2 = 0 then
  if (wd p.seg (p.off + 1)).2 = 0 then
   if (ptrDec (wd p.seg p.off).1).2 = 0 then
    if (ptrDec (wd p.seg (p.off+1)).1).2=0 then
     if (ptrDec (wd p.seg p.off).1).1.kind=3∧(ptrDec (wd p.seg p.off).1).1.dbl=false∧isNear (ptrDec (wd p.seg (p.off+1)).1).1=true∧(ptrDec (wd p.seg (p.off+1)).1).1.off=0 then
      (obOf (ptrDec (wd p.seg (p.off+1)).1).1 (ptrDec (wd p.seg p.off).1).1.seg (ptrDec (wd p.seg p.off).1).1.off,0)
     else (ob0,23)
    else (ob0,(ptrDec (wd p.seg (p.off+1)).1).2)
   else (ob0,(ptrDec (wd p.seg p.off).1).2)
  else (ob0,(wd p.seg (p.off+1)).2)
 else (ob0,(wd p.seg p.off).2)
theorem zFK (sz:List Int) (wd:Int→Int→Int×Int) (p:Pt):twiceP sz wd p=if (twiceO wd p).2=0 then foundO sz (twiceO wd p).1 else (ob0,(twiceO wd p).2):=by
 unfold twiceP twiceO
 by_cases h1:(wd p.seg p.off).2=0
 ·rw [if_pos h1, if_pos h1]
  by_cases h2:(wd p.seg (p.off+1)).2=0
  ·rw [if_pos h2,if_pos h2]
   by_cases h3:(ptrDec (wd p.seg p.off).1).2=0
   ·rw [if_pos h3,if_pos h3]
    by_cases h4:(ptrDec (wd p.seg (p.off+1)).1).2=0
    ·rw [if_pos h4,if_pos h4]
     by_cases h5:(ptrDec (wd p.seg p.off).1).1.kind=3∧(ptrDec (wd p.seg p.off).1).1.dbl=false∧isNear (ptrDec (wd p.seg (p.off+1)).1).1=true∧(ptrDec (wd p.seg (p.off+1)).1).1.off=0
     ·rw [if_pos h5,if_pos h5,if_pos rfl,zEK]
     ·rw [if_neg h5,if_neg h5,if_neg (by simp)]
    ·rw [if_neg h4,if_neg h4,if_neg (by simpa using h4)]
   ·rw [if_neg h3,if_neg h3,if_neg (by simpa using h3)]
  ·rw [if_neg h2,if_neg h2,if_neg (by simpa using h2)]
 ·rw [if_neg h1,if_neg h1,if_neg (by simpa using h1)]
theorem zVF (a:List (List Int)) (ho:OkA a) (A:Option Addr) (c:Nat) (w:World) (h:RowsR .u64 a (.slice A a.length c) w) (p:Pt) (hp:PtOk p):Calls Tryz.prog 227 #[.agg #[.slice A a.length c,qL,qI],.agg p] w (QFPost (twiceO (wordA a) p) w):=by
 have hga:=(Keep.refl NoB w).alloc (.cells #[.slice A a.length c,qL,qI] 186)
 have hgb:=hga.alloc (.cells p 120)
 have hgc:=hgb.alloc (.cells () 257)
 have h2:=zU w (.cells #[.slice A a.length c,qL,qI] 186) (.cells p 120)
 have hsz2:((w.alloc (.cells #[.slice A a.length c,qL,qI] 186)).alloc (.cells p 120)).heap.size=w.heap.size+2:=by simp
 have hz:=heap_alloc_new ((w.alloc (.cells #[.slice A a.length c,qL,qI] 186)).alloc (.cells p 120)) (.cells () 257)
 rw [hsz2] at hz
 have HZ:=LH hz
 have hgl:=(Keep.refl NoB ((w.alloc (.cells #[.slice A a.length c,qL,qI] 186)).alloc (.cells p 120))).alloc (.cells () 257)
 have HS:=LH (Grow.heap hgl h2.1)
 have HPC:=LH (Grow.heap hgl h2.2.1)
 have HG:=LH hgc
 have H:=LH (h.grow hgc)
 have HA:=LH ho
 have HV:=LH (zi ho).val
 have hpo:=hp.o
 have hwo:IntKind.i64.wrap (p.off+1)=p.off+1:=IntWalk.i64_in _ (by omega)
 have E0 : Hid (twiceO (wordA a) p = if (wordA a p.seg p.off).2 = 0 then
  if (wordA a p.seg (p.off + 1)).2 = 0 then
   if (ptrDec (wordA a p.seg p.off).1).2 = 0 then
    if (ptrDec (wordA a p.seg (p.off+1)).1).2=0 then
     if (ptrDec (wordA a p.seg p.off).1).1.kind=3∧(ptrDec (wordA a p.seg p.off).1).1.dbl=false∧isNear (ptrDec (wordA a p.seg (p.off+1)).1).1=true∧(ptrDec (wordA a p.seg (p.off+1)).1).1.off=0 then
      (obOf (ptrDec (wordA a p.seg (p.off+1)).1).1 (ptrDec (wordA a p.seg p.off).1).1.seg (ptrDec (wordA a p.seg p.off).1).1.off,0)
     else (ob0,23)
    else (ob0,(ptrDec (wordA a p.seg (p.off+1)).1).2)
   else (ob0,(ptrDec (wordA a p.seg p.off).1).2)
  else (ob0,(wordA a p.seg (p.off+1)).2)
 else (ob0,(wordA a p.seg p.off).2)):=LH rfl
 obtain ⟨m0,m1,m2,mf⟩:=zI HS.out
 obtain ⟨c0,c1,c2,c3,c4,c5,c6,c7,cf⟩:=zP HPC.out
 clear h ho hp hga hgb hgc h2 hsz2 hz hgl hpo
 have HW1:=LH (zqA a HA.out A c _ H.out p.seg p.off)
 generalize hX1:wordA a p.seg p.off=X1 at *
 have hv1:=HV.out p.seg p.off
 rw [hX1] at hv1
 clear hX1
 obtain ⟨x1,e1⟩:=X1
 go_enter Tryz.func227,Tryz.ntmps227
 go_wp2_with fail
 refine HW1.out.mono ?_
 rintro e w1 ⟨rfl,hg⟩
 replace HZ:=LH (Grow.heap hg HZ.out)
 replace HS:=LH (Grow.heap hg HS.out)
 replace HPC:=LH (Grow.heap hg HPC.out)
 replace HG:=LH (HG.out.grow hg)
 replace H:=LH (H.out.grow hg)
 clear hg m0 m1 m2 mf c0 c1 c2 c3 c4 c5 c6 c7 cf HW1
 have HV1:=LH hv1
 clear hv1
 by_cases he:e1=0
 case neg =>
  have heb:(e1 != 0)=true:=by simp [he]
  replace E0:=LH (E0.out.trans (if_neg he))
  clear he hwo
  obtain ⟨y0,y1,y2,y3,y4,y5,y6,yf⟩:=zC HZ.out
  go_wp2
  refine ret7 HG.out (by omega) HZ.out (fun w' z0 z1 z2 z3 z4 z5 z6 zf=>?_) rfl (fun w' hg=>⟨by rw [E0.out];rfl,hg⟩)
  rw [results_cell_tmp rfl];go_simp
 have heb:(e1 != 0)=false:=by simp [he]
 replace E0:=LH (E0.out.trans (if_pos he))
 clear he
 obtain ⟨m0,m1,m2,mf⟩:=zI HS.out
 obtain ⟨c0,c1,c2,c3,c4,c5,c6,c7,cf⟩:=zP HPC.out
 have HW2:=LH (zqA a HA.out A c w1 H.out p.seg (p.off+1))
 generalize hX2:wordA a p.seg (p.off+1)=X2 at *
 have hv2:=HV.out p.seg (p.off+1)
 rw [hX2] at hv2
 have HV2:=LH hv2
 clear hX2 hv2
 obtain ⟨x2,e2⟩:=X2
 go_wp2_with fail
 refine HW2.out.mono ?_
 rintro e w2 ⟨rfl,hg⟩
 replace HZ:=LH (Grow.heap hg HZ.out)
 replace HG:=LH (HG.out.grow hg)
 clear hg m0 m1 m2 mf c0 c1 c2 c3 c4 c5 c6 c7 cf HW2 hwo heb
 by_cases he:e2=0
 case neg =>
  have heb:(e2 != 0)=true:=by simp [he]
  replace E0:=LH (E0.out.trans (if_neg he))
  clear he
  obtain ⟨y0,y1,y2,y3,y4,y5,y6,yf⟩:=zC HZ.out
  go_wp2
  refine ret7 HG.out (by omega) HZ.out (fun w' z0 z1 z2 z3 z4 z5 z6 zf=>?_) rfl (fun w' hg=>⟨by rw [E0.out];rfl,hg⟩)
  rw [results_cell_tmp rfl];go_simp
 have heb:(e2 != 0)=false:=by simp [he]
 replace E0:=LH (E0.out.trans (if_pos he))
 clear he
 go_wp2_with fail
 refine (zcA x1 _ HV1.out.1 HV1.out.2).mono ?_
 rintro e w3 ⟨rfl,hg⟩
 generalize ptrDec x1=Q at *
 have hgq:=(Keep.refl NoB w3).alloc (.cells Q.1 120)
 have HQC:=LH (heap_alloc_new w3 (.cells Q.1 120))
 have HB3:Hid (w.heap.size+2<w3.heap.size):=LH (by have h1:=(gE (Grow.heap hg HZ.out)).1;omega)
 replace HZ:=LH (Grow.heap (hg.grow hgq) HZ.out)
 replace HG:=LH (HG.out.grow (hg.grow hgq))
 clear hg hgq heb
 by_cases he:Q.2=0
 case neg =>
  have heb:(Q.2 != 0)=true:=by simp [he]
  replace E0:=LH (E0.out.trans (if_neg he))
  clear he
  obtain ⟨y0,y1,y2,y3,y4,y5,y6,yf⟩:=zC HZ.out
  go_wp2
  refine ret7 HG.out (by omega) HZ.out (fun w' z0 z1 z2 z3 z4 z5 z6 zf=>?_) rfl (fun w' hg=>⟨by rw [E0.out];rfl,hg⟩)
  rw [results_cell_tmp rfl];go_simp
 have heb:(Q.2 != 0)=false:=by simp [he]
 replace E0:=LH (E0.out.trans (if_pos he))
 clear he
 go_wp2_with fail
 refine (zcA x2 _ HV2.out.1 HV2.out.2).mono ?_
 rintro e w4 ⟨rfl,hg⟩
 generalize ptrDec x2=R at *
 have hgr:=(Keep.refl NoB w4).alloc (.cells R.1 120)
 have HRC:=LH (heap_alloc_new w4 (.cells R.1 120))
 replace HQC:=LH (Grow.heap (hg.grow hgr) HQC.out)
 replace HZ:=LH (Grow.heap (hg.grow hgr) HZ.out)
 replace HG:=LH (HG.out.grow (hg.grow hgr))
 have HB4:Hid (w.heap.size+2<w4.heap.size∧w3.heap.size<w4.heap.size):=LH (by have h1:=hg.size;simp at h1;have:=HB3.out;omega)
 clear hg hgr heb
 by_cases he:R.2=0
 case neg =>
  have heb:(R.2 != 0)=true:=by simp [he]
  replace E0:=LH (E0.out.trans (if_neg he))
  clear he
  obtain ⟨y0,y1,y2,y3,y4,y5,y6,yf⟩:=zC HZ.out
  go_wp2
  refine ret7 HG.out (by omega) HZ.out (fun w' z0 z1 z2 z3 z4 z5 z6 zf=>?_) rfl (fun w' hg=>⟨by rw [E0.out];rfl,hg⟩)
  rw [results_cell_tmp rfl];go_simp
 have heb:(R.2 != 0)=false:=by simp [he]
 replace E0:=LH (E0.out.trans (if_pos he))
 clear he
 obtain ⟨q0,q1,q2,q3,q4,q5,q6,q7,qf⟩:=zP HQC.out
 obtain ⟨r0,r1,r2,r3,r4,r5,r6,r7,rf⟩:=zP HRC.out
 by_cases k3:Q.1.kind=3
 case neg =>
  have k3b:(Q.1.kind != 3)=true:=by simp [k3]
  replace E0:=LH (E0.out.trans (if_neg (fun h=>k3 h.1)))
  clear k3
  obtain ⟨y0,y1,y2,y3,y4,y5,y6,yf⟩:=zC HZ.out
  go_wp2
  refine ret7 HG.out (by omega) HZ.out (fun w' z0 z1 z2 z3 z4 z5 z6 zf=>?_) rfl (fun w' hg=>⟨by rw [E0.out];rfl,hg⟩)
  rw [results_cell_tmp rfl];go_simp
 have k3b:(Q.1.kind != 3)=false:=by simp [k3]
 by_cases hdb:Q.1.dbl=true
 case pos =>
  replace E0:=LH (E0.out.trans (if_neg (fun h=>by rw [hdb] at h;cases h.2.1)))
  clear k3
  rw [hdb] at q7
  obtain ⟨y0,y1,y2,y3,y4,y5,y6,yf⟩:=zC HZ.out
  go_wp2
  refine ret7 HG.out (by omega) HZ.out (fun w' z0 z1 z2 z3 z4 z5 z6 zf=>?_) rfl (fun w' hg=>⟨by rw [E0.out];rfl,hg⟩)
  rw [results_cell_tmp rfl];go_simp
 have hdb2:Q.1.dbl=false:=by simpa using hdb
 rw [hdb2] at q7
 go_wp2_with fail
 refine (show Calls Tryz.prog 224 #[.agg R.1] (w4.alloc (.cells R.1 120)) (fun e w'=>e=.returned (.bool (isNear R.1))∧Grow (w4.alloc (.cells R.1 120)) w') from zJC R.1 _).mono ?_
 rintro e w6 ⟨rfl,hg⟩
 replace HZ:=LH (Grow.heap hg HZ.out)
 replace HG:=LH (HG.out.grow hg)
 replace HQC:=LH (Grow.heap hg HQC.out)
 replace HRC:=LH (Grow.heap hg HRC.out)
 clear hg q0 q1 q2 q3 q4 q5 q6 q7 qf r0 r1 r2 r3 r4 r5 r6 r7 rf hdb heb
 obtain ⟨q0,q1,q2,q3,q4,q5,q6,q7,qf⟩:=zP HQC.out
 obtain ⟨r0,r1,r2,r3,r4,r5,r6,r7,rf⟩:=zP HRC.out
 rcases hnr:isNear R.1 with _ | _
 ·replace E0:=LH (E0.out.trans (if_neg (fun h=>by rw [hnr] at h;cases h.2.2.1)))
  clear k3 hnr hdb2
  obtain ⟨y0,y1,y2,y3,y4,y5,y6,yf⟩:=zC HZ.out
  go_wp2
  refine ret7 HG.out (by omega) HZ.out (fun w' z0 z1 z2 z3 z4 z5 z6 zf=>?_) rfl (fun w' hg=>⟨by rw [E0.out];rfl,hg⟩)
  rw [results_cell_tmp rfl];go_simp
 ·by_cases hof:R.1.off=0
  case neg =>
   have hofb:(R.1.off != 0)=true:=by simp [hof]
   replace E0:=LH (E0.out.trans (if_neg (fun h=>hof h.2.2.2)))
   clear k3 hnr hdb2 hof
   obtain ⟨y0,y1,y2,y3,y4,y5,y6,yf⟩:=zC HZ.out
   go_wp2
   refine ret7 HG.out (by omega) HZ.out (fun w' z0 z1 z2 z3 z4 z5 z6 zf=>?_) rfl (fun w' hg=>⟨by rw [E0.out];rfl,hg⟩)
   rw [results_cell_tmp rfl];go_simp
  have hofb:(R.1.off != 0)=false:=by simp [hof]
  replace E0:=LH (E0.out.trans (if_pos ⟨k3,hdb2,hnr,hof⟩))
  clear k3 hnr hdb2 hof
  go_wp2_with fail
  refine (show Calls Tryz.prog 226 #[.agg R.1,.int .i64 Q.1.seg,.int .i64 Q.1.off] w6 (QObPost (obOf R.1 Q.1.seg Q.1.off) w6) from zSB R.1 Q.1.seg Q.1.off w6).mono ?_
  rintro e w7 ⟨rfl,hg⟩
  replace HZ:=LH (Grow.heap hg HZ.out)
  replace HG:=LH (HG.out.grow hg)
  clear hg q0 q1 q2 q3 q4 q5 q6 q7 qf r0 r1 r2 r3 r4 r5 r6 r7 rf
  generalize obOf R.1 Q.1.seg Q.1.off=ob at *
  obtain ⟨y0,y1,y2,y3,y4,y5,y6,yf⟩:=zC HZ.out
  go_wp2
  refine ret7 HG.out (by omega) HZ.out (fun w' z0 z1 z2 z3 z4 z5 z6 zf=>?_) rfl (fun w' hg=>⟨by rw [E0.out],hg⟩)
  rw [results_cell_tmp rfl];go_simp
def byteR (wd:Int→Int→Int×Int) (seg at_:Int) (i:Nat):Int:=(wd seg (at_+((i/8:Nat):Int))).1/2 ^ (8*(i%8))%256
theorem zoI (wd:Int→Int→Int×Int) (seg at_:Int) (m:Nat):bytesQ wd seg at_ (m+1)=bytesQ wd seg at_ m++putB (wd seg (at_+m)).1 8:=by
 simp [bytesQ,wordsP,List.range_succ]
theorem zRE (wd:Int→Int→Int×Int) (seg at_:Int):∀ (m i:Nat),i<m*8→(bytesQ wd seg at_ m)[i]? = some (byteR wd seg at_ i)
 | 0,i,h=>by omega
 | m + 1, i, h => by
  rw [zoI]
  by_cases hi:i<m*8
  ·rw [List.getElem?_append_left (by rw [zFB];exact hi)]
   exact zRE wd seg at_ m i hi
  ·rw [List.getElem?_append_right (by rw [zFB];omega),zFB]
   unfold putB byteR
   rw [List.getElem?_map,List.getElem?_range (by omega)]
   have e1:i/8=m:=by omega
   have e2:i%8=i-m*8:=by omega
   rw [e1,e2]
   rfl
theorem zxB (wd:Int→Int→Int×Int) (seg at_:Int) (n:Nat):bytesP wd seg at_ n=(List.range n).map (byteR wd seg at_):=by
 apply List.ext_getElem?
 intro i
 unfold bytesP
 rw [List.getElem?_take,List.getElem?_map]
 by_cases h:i<n
 ·rw [if_pos h,zRE _ _ _ _ _ (by omega),List.getElem?_range h]
  rfl
 ·rw [if_neg h,List.getElem?_eq_none (by simp;omega)]
  rfl
theorem zpI (wd:Int→Int→Int×Int) (seg at_:Int) (n:Nat):u8s (bytesP wd seg at_ (n+1))=u8s (bytesP wd seg at_ n)++[.int .u8 (byteR wd seg at_ n)]:=by
 rw [zxB,zxB]
 simp [u8s,List.range_succ]
end Go.Proofs.YtfkcpaahdlkcdaaGreat

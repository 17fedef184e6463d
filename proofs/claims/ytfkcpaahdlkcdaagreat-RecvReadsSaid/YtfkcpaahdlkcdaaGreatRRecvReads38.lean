import Derived.Test.YtfkcpaahdlkcdaaGreatRRecvReads33
set_option linter.unusedSimpArgs false
set_option linter.unusedVariables false
set_option maxRecDepth 100000
set_option maxHeartbeats 16000000
namespace Go.Proofs.YtfkcpaahdlkcdaaGreat
open Go.RowKit
theorem zKA {fn:Func} {p q:Tmp} {ty tz:TypeId} (h:fn.results=#[.cell p ty,.cell q tz]) (tmps:Array Value) (P:Program) (w:World) :
    (results fn tmps).run P w=((asAddr (tmps.getD p undef)).run P w).andThen fun a w₁=>((loadVar ty a).run P w₁).andThen fun v w₂=>((asAddr (tmps.getD q undef)).run P w₂).andThen fun b w₃=>((loadVar tz b).run P w₃).andThen fun u w₄=>.ok (.tuple #[v,u]) w₄:=by
 simp only [results,h]
 simp [Sem.run_bind,Result.andThen]
theorem zfG (last:Bool) (f:Int→Int→Int→Tr×Int×Int) (a:List (List Int)) (ho:OkA a) (A:Option Addr) (c:Nat) (w:World) (h:RowsR .u64 a (.slice A a.length c) w) (seg at_ paid deep:Int) (p0:0≤paid) (p1:paid≤8192) (hl:last=decide (32≤deep)) (hfe:(followP (szs a) (wordA a) seg at_).2≠0) :
    Calls Tryz.prog 142 #[.agg #[.slice A a.length c,qL,qI,.int .i64 paid,qJ],.int .i64 seg,.int .i64 at_,.int .i64 deep] w (QNPost A a.length c (nodeS (szs a) (wordA a) last f seg at_ paid) w):=by
 have E0:Hid (nodeS (szs a) (wordA a) last f seg at_ paid=if (followP (szs a) (wordA a) seg at_).2=0 then if (followP (szs a) (wordA a) seg at_).1.kind≠0∧last=true then (tr0,21,paid+(1+obWords (followP (szs a) (wordA a) seg at_).1)) else if 8192<paid+(1+obWords (followP (szs a) (wordA a) seg at_).1) then (tr0,22,paid+(1+obWords (followP (szs a) (wordA a) seg at_).1)) else nodeT (wordA a) f (followP (szs a) (wordA a) seg at_).1 (paid+(1+obWords (followP (szs a) (wordA a) seg at_).1)) else (tr0,(followP (szs a) (wordA a) seg at_).2,paid)):=LH rfl
 have h2:=zU w (.cells #[.slice A a.length c,qL,qI,.int .i64 paid,qJ] 216) (.cells qF 216)
 have hsz2:((w.alloc (.cells #[.slice A a.length c,qL,qI,.int .i64 paid,qJ] 216)).alloc (.cells qF 216)).heap.size=w.heap.size+2:=by simp
 have hz:=heap_alloc_new ((w.alloc (.cells #[.slice A a.length c,qL,qI,.int .i64 paid,qJ] 216)).alloc (.cells qF 216)) (.cells qA 114)
 rw [hsz2] at hz
 have hgl:=(Keep.refl NoB ((w.alloc (.cells #[.slice A a.length c,qL,qI,.int .i64 paid,qJ] 216)).alloc (.cells qF 216))).alloc (.cells qA 114)
 have HD4:=LH (Grow.heap hgl h2.1)
 have HD8:=LH (Grow.heap hgl h2.2.1)
 have HD9:=LH hz
 have hg0:=h2.2.2.grow hgl
 have HG:=LH hg0
 have H:=LH (h.grow hg0)
 have HA:=LH ho
 have HOI:=LH (zd (zi ho) seg at_)
 have HFW:=LH (zJA a ho A c _ (h.grow hg0) seg at_)
 obtain ⟨c0,c1,c2,c3,c4,cf⟩:=zA HD4.out
 clear h ho h2 hsz2 hz hgl hg0
 replace E0:=LH (E0.out.trans (if_neg hfe))
 go_enter Tryz.func142,Tryz.ntmps142
 go_wp2_with fail
 refine HFW.out.mono ?_
 rintro e w1 ⟨rfl,hg⟩
 generalize (followP (szs a) (wordA a) seg at_).1=o at *
 generalize (followP (szs a) (wordA a) seg at_).2=fe at *
 have hgo:=(Keep.refl NoB w1).alloc (.cells o 257)
 have HOB:=LH (heap_alloc_new w1 (.cells o 257))
 have hd9:=Grow.heap hg HD9.out
 have hlo:w.heap.size+2<w1.heap.size:=(gE hd9).1
 have HLO:=LH hlo
 replace HD4:=LH (Grow.heap (hg.grow hgo) HD4.out)
 replace HD8:=LH (Grow.heap (hg.grow hgo) HD8.out)
 replace HD9:=LH (Grow.heap hgo hd9)
 replace HG:=LH (HG.out.grow (hg.grow hgo))
 replace H:=LH (H.out.grow (hg.grow hgo))
 have hne1:w1.heap.size≠w.heap.size:=by omega
 have hne2:w.heap.size≠w1.heap.size:=by omega
 clear hg hgo hd9 hlo c0 c1 c2 c3 c4 cf HFW
 obtain ⟨c0,c1,c2,c3,c4,cf⟩:=zA HD4.out
 obtain ⟨o0,o1,o2,o3,o4,o5,o6,of⟩:=zC HOB.out
 have how:=za HOI.out
 have hs1:IntKind.i64.wrap (1+obWords o)=1+obWords o:=IntWalk.i64_in _ (by omega)
 have hs2:IntKind.i64.wrap (paid+(1+obWords o))=paid+(1+obWords o):=IntWalk.i64_in _ (by omega)
 have heb:(fe==0)=false:=by simpa using hfe
 have hen:(fe != 0)=true:=by simpa using hfe
 have HER:=LH hfe
 clear hfe hl
 clear how
 go_wp2
 refine zE [0,1,2,3,4,5,6,7] [3,7] [1,2] [7] rfl (by kernel_rfl) ?_
 refine ord_p ?_
 refine oc1 c3 ?_
 refine oc7 o0 o1 o2 o3 o4 o5 o6 ?_
 refine zG rfl rfl rfl rfl rfl Tryz.func174 rfl rfl [.agg o] rfl ?_
 refine (show Calls Tryz.prog 174 #[.agg o] _ (fun e w'=>e=.returned (.int .i64 (obWords o))∧Grow _ w') from zRA o _ HOI.out.ok).mono ?_
 rintro e w3 ⟨rfl,hg⟩
 refine ⟨_,rfl,fun _=>hg,?_⟩
 have hgd:Grow (w1.alloc (.cells o 257)) w3:=(Keep.refl NoB (w1.alloc (.cells o 257))).drew.grow hg
 replace HD4:=LH (Grow.heap hgd HD4.out)
 replace HD8:=LH (Grow.heap hgd HD8.out)
 replace HD9:=LH (Grow.heap hgd HD9.out)
 replace HOB:=LH (Grow.heap hgd HOB.out)
 replace HG:=LH (HG.out.grow hgd)
 replace H:=LH (H.out.grow hgd)
 clear hg hgd c0 c1 c2 c3 c4 cf o0 o1 o2 o3 o4 o5 o6 of
 simp only [Act.put,pB,pC,pD]
 iterate 3
  refine ord_p ?_
 obtain ⟨c0,c1,c2,c3,c4,cf⟩:=zA HD4.out
 refine zJ rfl rfl rfl rfl ?_ ?_ (fun h=>absurd (by simp) h) ?_
 rotate_left
 ·go_simp;with_reducible rfl
 refine zD ?_
 have hk:Keep (fun j=>j=w.heap.size) w3 (w3.setCell ⟨w.heap.size,3,none⟩ (.int .i64 (paid+(1+obWords o)))):=(Keep.refl (fun j=>j=w.heap.size) w3).setCell (p:=⟨w.heap.size,3,none⟩) (.inl rfl) _
 have hd4:(w3.setCell ⟨w.heap.size,3,none⟩ (.int .i64 (paid+(1+obWords o)))).heap[w.heap.size]? = some (.cells #[.slice A a.length c,qL,qI,.int .i64 (paid+(1+obWords o)),qJ] 216 (0,0)):=by
  have h0:=HD4.out
  simp only [World.setCell,Array.getElem?_modify]
  simp [h0]
 replace HD8:=LH ((hk.block _ (gE HD8.out).1 (by omega)).trans HD8.out)
 replace HD9:=LH ((hk.block _ (gE HD9.out).1 (by omega)).trans HD9.out)
 replace HOB:=LH ((hk.block _ (gE HOB.out).1 (by have:=HLO.out;omega)).trans HOB.out)
 replace HG:=LH (HG.out.setCell (p:=⟨w.heap.size,3,none⟩) (.inr (Nat.le_refl _)) (.int .i64 (paid+(1+obWords o))))
 replace HD4:=LH hd4
 clear hk hd4 c0 c1 c2 c3 c4 cf
 revert HD4 HD8 HD9 HOB HG
 generalize w3.setCell ⟨w.heap.size,3,none⟩ (.int .i64 (paid+(1+obWords o)))=w4
 intro HD8 HD9 HOB HG HD4
 obtain ⟨c0,c1,c2,c3,c4,cf⟩:=zA HD4.out
 have hd4:(w4.setCell ⟨w.heap.size,4,none⟩ (.int .i64 fe)).heap[w.heap.size]? = some (.cells #[.slice A a.length c,qL,qI,.int .i64 (paid+(1+obWords o)),.int .i64 fe] 216 (0,0)):=by
  have h0:=HD4.out
  simp only [World.setCell,Array.getElem?_modify]
  simp [h0]
 have hk:Keep (fun j=>j=w.heap.size) w4 (w4.setCell ⟨w.heap.size,4,none⟩ (.int .i64 fe)):=(Keep.refl (fun j=>j=w.heap.size) w4).setCell (p:=⟨w.heap.size,4,none⟩) (.inl rfl) _
 have hd8:=(hk.block _ (gE HD8.out).1 (by omega)).trans HD8.out
 have hd9:=(hk.block _ (gE HD9.out).1 (by omega)).trans HD9.out
 have hg5:=HG.out.setCell (p:=⟨w.heap.size,4,none⟩) (.inr (Nat.le_refl _)) (.int .i64 fe)
 obtain ⟨x0,x1,x2,x3,x4,xf⟩:=zA hd4
 obtain ⟨y0,y1,y2,y3,y4,yf⟩:=zA hd8
 obtain ⟨hs6,hg6⟩:=zY (.slice A a.length c) (.bool false) (.slice none 0 0) (.int .i64 (paid+(1+obWords o))) (.int .i64 fe) hg5 (by omega) hd8
 have hk6:=zb (c:=(w4.setCell ⟨w.heap.size,4,none⟩ (.int .i64 fe))) (N:=w.heap.size+1) (.slice A a.length c) (.bool false) (.slice none 0 0) (.int .i64 (paid+(1+obWords o))) (.int .i64 fe)
 have hd96:=(hk6.block _ (gE hd9).1 (by omega)).trans hd9
 obtain ⟨z0,z1,z2,z3,z4,zf⟩:=zA hd96
 obtain ⟨hs7,hg7⟩:=zY (.int .i64 0) (.int .i64 0) (.slice none 0 0) (.slice none 0 0) (.slice none 0 0) hg6 (by omega) hd96
 have hk7:=zb (c:=((((((w4.setCell ⟨w.heap.size,4,none⟩ (.int .i64 fe)).setCell ⟨w.heap.size+1,0,none⟩ (.slice A a.length c)).setCell ⟨w.heap.size+1,1,none⟩ (.bool false)).setCell ⟨w.heap.size+1,2,none⟩ (.slice none 0 0)).setCell ⟨w.heap.size+1,3,none⟩ (.int .i64 (paid+(1+obWords o)))).setCell ⟨w.heap.size+1,4,none⟩ (.int .i64 fe))) (N:=w.heap.size+2) (.int .i64 0) (.int .i64 0) (.slice none 0 0) (.slice none 0 0) (.slice none 0 0)
 have hs67:=(hk7.block _ (gE hs6).1 (by omega)).trans hs6
 have HR8:=LH hs67
 have HR9:=LH hs7
 have HGR:=LH hg7
 clear hk hd4 hd8 hd9 hg5 hs6 hg6 hk6 hd96 hs7 hg7 hk7 hs67
 go_wp2
 clear x0 x1 x2 x3 x4 xf y0 y1 y2 y3 y4 yf z0 z1 z2 z3 z4 zf
 revert HR8 HR9 HGR
 generalize (((((((((((w4.setCell ⟨w.heap.size,4,none⟩ (.int .i64 fe)).setCell ⟨w.heap.size+1,0,none⟩ (.slice A a.length c)).setCell ⟨w.heap.size+1,1,none⟩ (.bool false)).setCell ⟨w.heap.size+1,2,none⟩ (.slice none 0 0)).setCell ⟨w.heap.size+1,3,none⟩ (.int .i64 (paid+(1+obWords o)))).setCell ⟨w.heap.size+1,4,none⟩ (.int .i64 fe)).setCell ⟨w.heap.size+2,0,none⟩ (.int .i64 0)).setCell ⟨w.heap.size+2,1,none⟩ (.int .i64 0)).setCell ⟨w.heap.size+2,2,none⟩ (.slice none 0 0)).setCell ⟨w.heap.size+2,3,none⟩ (.slice none 0 0)).setCell ⟨w.heap.size+2,4,none⟩ (.slice none 0 0))=w7
 intro HR8 HR9 HGR
 obtain ⟨x0,x1,x2,x3,x4,xf⟩:=zA HR8.out
 obtain ⟨y0,y1,y2,y3,y4,yf⟩:=zA HR9.out
 refine bodyPost_ret (v:=.tuple #[.agg #[.slice A a.length c,qL,qI,.int .i64 (paid+(1+obWords o)),.int .i64 fe],.agg qA]) ?_ rfl ?_
 ·rw [zKA rfl];go_simp
 ·rw [E0.out]
  exact ⟨(paid+(1+obWords o)),0,0,none,none,none,0,0,0,0,0,0,rfl,HGR.out,fun h=>absurd h (by first | exact HER.out | simp)⟩
theorem znI (last:Bool) (f:Int→Int→Int→Tr×Int×Int) (a:List (List Int)) (ho:OkA a) (A:Option Addr) (c:Nat) (w:World) (h:RowsR .u64 a (.slice A a.length c) w) (seg at_ paid deep:Int) (p0:0≤paid) (p1:paid≤8192) (hl:last=decide (32≤deep)) (hfe:(followP (szs a) (wordA a) seg at_).2=0) (hk:(followP (szs a) (wordA a) seg at_).1.kind≠0) (hd:32≤deep) :
    Calls Tryz.prog 142 #[.agg #[.slice A a.length c,qL,qI,.int .i64 paid,qJ],.int .i64 seg,.int .i64 at_,.int .i64 deep] w (QNPost A a.length c (nodeS (szs a) (wordA a) last f seg at_ paid) w):=by
 have E0:Hid (nodeS (szs a) (wordA a) last f seg at_ paid=if (followP (szs a) (wordA a) seg at_).2=0 then if (followP (szs a) (wordA a) seg at_).1.kind≠0∧last=true then (tr0,21,paid+(1+obWords (followP (szs a) (wordA a) seg at_).1)) else if 8192<paid+(1+obWords (followP (szs a) (wordA a) seg at_).1) then (tr0,22,paid+(1+obWords (followP (szs a) (wordA a) seg at_).1)) else nodeT (wordA a) f (followP (szs a) (wordA a) seg at_).1 (paid+(1+obWords (followP (szs a) (wordA a) seg at_).1)) else (tr0,(followP (szs a) (wordA a) seg at_).2,paid)):=LH rfl
 have h2:=zU w (.cells #[.slice A a.length c,qL,qI,.int .i64 paid,qJ] 216) (.cells qF 216)
 have hsz2:((w.alloc (.cells #[.slice A a.length c,qL,qI,.int .i64 paid,qJ] 216)).alloc (.cells qF 216)).heap.size=w.heap.size+2:=by simp
 have hz:=heap_alloc_new ((w.alloc (.cells #[.slice A a.length c,qL,qI,.int .i64 paid,qJ] 216)).alloc (.cells qF 216)) (.cells qA 114)
 rw [hsz2] at hz
 have hgl:=(Keep.refl NoB ((w.alloc (.cells #[.slice A a.length c,qL,qI,.int .i64 paid,qJ] 216)).alloc (.cells qF 216))).alloc (.cells qA 114)
 have HD4:=LH (Grow.heap hgl h2.1)
 have HD8:=LH (Grow.heap hgl h2.2.1)
 have HD9:=LH hz
 have hg0:=h2.2.2.grow hgl
 have HG:=LH hg0
 have H:=LH (h.grow hg0)
 have HA:=LH ho
 have HOI:=LH (zd (zi ho) seg at_)
 have HFW:=LH (zJA a ho A c _ (h.grow hg0) seg at_)
 obtain ⟨c0,c1,c2,c3,c4,cf⟩:=zA HD4.out
 clear h ho h2 hsz2 hz hgl hg0
 replace E0:=LH ((E0.out.trans (if_pos hfe)).trans (if_pos ⟨hk,by rw [hl];simpa using hd⟩))
 go_enter Tryz.func142,Tryz.ntmps142
 go_wp2_with fail
 refine HFW.out.mono ?_
 rintro e w1 ⟨rfl,hg⟩
 generalize (followP (szs a) (wordA a) seg at_).1=o at *
 generalize (followP (szs a) (wordA a) seg at_).2=fe at *
 have hgo:=(Keep.refl NoB w1).alloc (.cells o 257)
 have HOB:=LH (heap_alloc_new w1 (.cells o 257))
 have hd9:=Grow.heap hg HD9.out
 have hlo:w.heap.size+2<w1.heap.size:=(gE hd9).1
 have HLO:=LH hlo
 replace HD4:=LH (Grow.heap (hg.grow hgo) HD4.out)
 replace HD8:=LH (Grow.heap (hg.grow hgo) HD8.out)
 replace HD9:=LH (Grow.heap hgo hd9)
 replace HG:=LH (HG.out.grow (hg.grow hgo))
 replace H:=LH (H.out.grow (hg.grow hgo))
 have hne1:w1.heap.size≠w.heap.size:=by omega
 have hne2:w.heap.size≠w1.heap.size:=by omega
 clear hg hgo hd9 hlo c0 c1 c2 c3 c4 cf HFW
 obtain ⟨c0,c1,c2,c3,c4,cf⟩:=zA HD4.out
 obtain ⟨o0,o1,o2,o3,o4,o5,o6,of⟩:=zC HOB.out
 have how:=za HOI.out
 have hs1:IntKind.i64.wrap (1+obWords o)=1+obWords o:=IntWalk.i64_in _ (by omega)
 have hs2:IntKind.i64.wrap (paid+(1+obWords o))=paid+(1+obWords o):=IntWalk.i64_in _ (by omega)
 have heb:(fe==0)=true:=by simpa using hfe
 have hkb:(o.kind != 0)=true:=by simpa using hk
 have HER:Hid ((21:Int)≠0):=LH (by decide)
 clear hfe hl hk
 clear how
 go_wp2
 refine zE [0,1,2,3,4,5,6,7] [3,7] [1,2] [7] rfl (by kernel_rfl) ?_
 refine ord_p ?_
 refine oc1 c3 ?_
 refine oc7 o0 o1 o2 o3 o4 o5 o6 ?_
 refine zG rfl rfl rfl rfl rfl Tryz.func174 rfl rfl [.agg o] rfl ?_
 refine (show Calls Tryz.prog 174 #[.agg o] _ (fun e w'=>e=.returned (.int .i64 (obWords o))∧Grow _ w') from zRA o _ HOI.out.ok).mono ?_
 rintro e w3 ⟨rfl,hg⟩
 refine ⟨_,rfl,fun _=>hg,?_⟩
 have hgd:Grow (w1.alloc (.cells o 257)) w3:=(Keep.refl NoB (w1.alloc (.cells o 257))).drew.grow hg
 replace HD4:=LH (Grow.heap hgd HD4.out)
 replace HD8:=LH (Grow.heap hgd HD8.out)
 replace HD9:=LH (Grow.heap hgd HD9.out)
 replace HOB:=LH (Grow.heap hgd HOB.out)
 replace HG:=LH (HG.out.grow hgd)
 replace H:=LH (H.out.grow hgd)
 clear hg hgd c0 c1 c2 c3 c4 cf o0 o1 o2 o3 o4 o5 o6 of
 simp only [Act.put,pB,pC,pD]
 iterate 3
  refine ord_p ?_
 obtain ⟨c0,c1,c2,c3,c4,cf⟩:=zA HD4.out
 refine zJ rfl rfl rfl rfl ?_ ?_ (fun h=>absurd (by simp) h) ?_
 rotate_left
 ·go_simp;with_reducible rfl
 refine zD ?_
 have hk:Keep (fun j=>j=w.heap.size) w3 (w3.setCell ⟨w.heap.size,3,none⟩ (.int .i64 (paid+(1+obWords o)))):=(Keep.refl (fun j=>j=w.heap.size) w3).setCell (p:=⟨w.heap.size,3,none⟩) (.inl rfl) _
 have hd4:(w3.setCell ⟨w.heap.size,3,none⟩ (.int .i64 (paid+(1+obWords o)))).heap[w.heap.size]? = some (.cells #[.slice A a.length c,qL,qI,.int .i64 (paid+(1+obWords o)),qJ] 216 (0,0)):=by
  have h0:=HD4.out
  simp only [World.setCell,Array.getElem?_modify]
  simp [h0]
 replace HD8:=LH ((hk.block _ (gE HD8.out).1 (by omega)).trans HD8.out)
 replace HD9:=LH ((hk.block _ (gE HD9.out).1 (by omega)).trans HD9.out)
 replace HOB:=LH ((hk.block _ (gE HOB.out).1 (by have:=HLO.out;omega)).trans HOB.out)
 replace HG:=LH (HG.out.setCell (p:=⟨w.heap.size,3,none⟩) (.inr (Nat.le_refl _)) (.int .i64 (paid+(1+obWords o))))
 replace HD4:=LH hd4
 clear hk hd4 c0 c1 c2 c3 c4 cf
 revert HD4 HD8 HD9 HOB HG
 generalize w3.setCell ⟨w.heap.size,3,none⟩ (.int .i64 (paid+(1+obWords o)))=w4
 intro HD8 HD9 HOB HG HD4
 obtain ⟨c0,c1,c2,c3,c4,cf⟩:=zA HD4.out
 have hd4:(w4.setCell ⟨w.heap.size,4,none⟩ (.int .i64 21)).heap[w.heap.size]? = some (.cells #[.slice A a.length c,qL,qI,.int .i64 (paid+(1+obWords o)),.int .i64 21] 216 (0,0)):=by
  have h0:=HD4.out
  simp only [World.setCell,Array.getElem?_modify]
  simp [h0]
 have hk:Keep (fun j=>j=w.heap.size) w4 (w4.setCell ⟨w.heap.size,4,none⟩ (.int .i64 21)):=(Keep.refl (fun j=>j=w.heap.size) w4).setCell (p:=⟨w.heap.size,4,none⟩) (.inl rfl) _
 have hd8:=(hk.block _ (gE HD8.out).1 (by omega)).trans HD8.out
 have hd9:=(hk.block _ (gE HD9.out).1 (by omega)).trans HD9.out
 have hg5:=HG.out.setCell (p:=⟨w.heap.size,4,none⟩) (.inr (Nat.le_refl _)) (.int .i64 21)
 obtain ⟨x0,x1,x2,x3,x4,xf⟩:=zA hd4
 obtain ⟨y0,y1,y2,y3,y4,yf⟩:=zA hd8
 obtain ⟨hs6,hg6⟩:=zY (.slice A a.length c) (.bool false) (.slice none 0 0) (.int .i64 (paid+(1+obWords o))) (.int .i64 21) hg5 (by omega) hd8
 have hk6:=zb (c:=(w4.setCell ⟨w.heap.size,4,none⟩ (.int .i64 21))) (N:=w.heap.size+1) (.slice A a.length c) (.bool false) (.slice none 0 0) (.int .i64 (paid+(1+obWords o))) (.int .i64 21)
 have hd96:=(hk6.block _ (gE hd9).1 (by omega)).trans hd9
 obtain ⟨z0,z1,z2,z3,z4,zf⟩:=zA hd96
 obtain ⟨hs7,hg7⟩:=zY (.int .i64 0) (.int .i64 0) (.slice none 0 0) (.slice none 0 0) (.slice none 0 0) hg6 (by omega) hd96
 have hk7:=zb (c:=((((((w4.setCell ⟨w.heap.size,4,none⟩ (.int .i64 21)).setCell ⟨w.heap.size+1,0,none⟩ (.slice A a.length c)).setCell ⟨w.heap.size+1,1,none⟩ (.bool false)).setCell ⟨w.heap.size+1,2,none⟩ (.slice none 0 0)).setCell ⟨w.heap.size+1,3,none⟩ (.int .i64 (paid+(1+obWords o)))).setCell ⟨w.heap.size+1,4,none⟩ (.int .i64 21))) (N:=w.heap.size+2) (.int .i64 0) (.int .i64 0) (.slice none 0 0) (.slice none 0 0) (.slice none 0 0)
 have hs67:=(hk7.block _ (gE hs6).1 (by omega)).trans hs6
 have HR8:=LH hs67
 have HR9:=LH hs7
 have HGR:=LH hg7
 clear hk hd4 hd8 hd9 hg5 hs6 hg6 hk6 hd96 hs7 hg7 hk7 hs67
 go_wp2
 clear x0 x1 x2 x3 x4 xf y0 y1 y2 y3 y4 yf z0 z1 z2 z3 z4 zf
 revert HR8 HR9 HGR
 generalize (((((((((((w4.setCell ⟨w.heap.size,4,none⟩ (.int .i64 21)).setCell ⟨w.heap.size+1,0,none⟩ (.slice A a.length c)).setCell ⟨w.heap.size+1,1,none⟩ (.bool false)).setCell ⟨w.heap.size+1,2,none⟩ (.slice none 0 0)).setCell ⟨w.heap.size+1,3,none⟩ (.int .i64 (paid+(1+obWords o)))).setCell ⟨w.heap.size+1,4,none⟩ (.int .i64 21)).setCell ⟨w.heap.size+2,0,none⟩ (.int .i64 0)).setCell ⟨w.heap.size+2,1,none⟩ (.int .i64 0)).setCell ⟨w.heap.size+2,2,none⟩ (.slice none 0 0)).setCell ⟨w.heap.size+2,3,none⟩ (.slice none 0 0)).setCell ⟨w.heap.size+2,4,none⟩ (.slice none 0 0))=w7
 intro HR8 HR9 HGR
 obtain ⟨x0,x1,x2,x3,x4,xf⟩:=zA HR8.out
 obtain ⟨y0,y1,y2,y3,y4,yf⟩:=zA HR9.out
 refine bodyPost_ret (v:=.tuple #[.agg #[.slice A a.length c,qL,qI,.int .i64 (paid+(1+obWords o)),.int .i64 21],.agg qA]) ?_ rfl ?_
 ·rw [zKA rfl];go_simp
 ·rw [E0.out]
  exact ⟨(paid+(1+obWords o)),0,0,none,none,none,0,0,0,0,0,0,rfl,HGR.out,fun h=>absurd h (by first | exact HER.out | simp)⟩
theorem zYH (last:Bool) (f:Int→Int→Int→Tr×Int×Int) (a:List (List Int)) (ho:OkA a) (A:Option Addr) (c:Nat) (w:World) (h:RowsR .u64 a (.slice A a.length c) w) (seg at_ paid deep:Int) (p0:0≤paid) (p1:paid≤8192) (hl:last=decide (32≤deep)) (hfe:(followP (szs a) (wordA a) seg at_).2=0) (hno:¬ ((followP (szs a) (wordA a) seg at_).1.kind≠0∧last=true)) (hk:(followP (szs a) (wordA a) seg at_).1.kind=0) (hc:8192<paid+(1+obWords (followP (szs a) (wordA a) seg at_).1)) :
    Calls Tryz.prog 142 #[.agg #[.slice A a.length c,qL,qI,.int .i64 paid,qJ],.int .i64 seg,.int .i64 at_,.int .i64 deep] w (QNPost A a.length c (nodeS (szs a) (wordA a) last f seg at_ paid) w):=by
 have E0:Hid (nodeS (szs a) (wordA a) last f seg at_ paid=if (followP (szs a) (wordA a) seg at_).2=0 then if (followP (szs a) (wordA a) seg at_).1.kind≠0∧last=true then (tr0,21,paid+(1+obWords (followP (szs a) (wordA a) seg at_).1)) else if 8192<paid+(1+obWords (followP (szs a) (wordA a) seg at_).1) then (tr0,22,paid+(1+obWords (followP (szs a) (wordA a) seg at_).1)) else nodeT (wordA a) f (followP (szs a) (wordA a) seg at_).1 (paid+(1+obWords (followP (szs a) (wordA a) seg at_).1)) else (tr0,(followP (szs a) (wordA a) seg at_).2,paid)):=LH rfl
 have h2:=zU w (.cells #[.slice A a.length c,qL,qI,.int .i64 paid,qJ] 216) (.cells qF 216)
 have hsz2:((w.alloc (.cells #[.slice A a.length c,qL,qI,.int .i64 paid,qJ] 216)).alloc (.cells qF 216)).heap.size=w.heap.size+2:=by simp
 have hz:=heap_alloc_new ((w.alloc (.cells #[.slice A a.length c,qL,qI,.int .i64 paid,qJ] 216)).alloc (.cells qF 216)) (.cells qA 114)
 rw [hsz2] at hz
 have hgl:=(Keep.refl NoB ((w.alloc (.cells #[.slice A a.length c,qL,qI,.int .i64 paid,qJ] 216)).alloc (.cells qF 216))).alloc (.cells qA 114)
 have HD4:=LH (Grow.heap hgl h2.1)
 have HD8:=LH (Grow.heap hgl h2.2.1)
 have HD9:=LH hz
 have hg0:=h2.2.2.grow hgl
 have HG:=LH hg0
 have H:=LH (h.grow hg0)
 have HA:=LH ho
 have HOI:=LH (zd (zi ho) seg at_)
 have HFW:=LH (zJA a ho A c _ (h.grow hg0) seg at_)
 obtain ⟨c0,c1,c2,c3,c4,cf⟩:=zA HD4.out
 clear h ho h2 hsz2 hz hgl hg0
 replace E0:=LH (((E0.out.trans (if_pos hfe)).trans (if_neg hno)).trans (if_pos hc))
 go_enter Tryz.func142,Tryz.ntmps142
 go_wp2_with fail
 refine HFW.out.mono ?_
 rintro e w1 ⟨rfl,hg⟩
 generalize (followP (szs a) (wordA a) seg at_).1=o at *
 generalize (followP (szs a) (wordA a) seg at_).2=fe at *
 have hgo:=(Keep.refl NoB w1).alloc (.cells o 257)
 have HOB:=LH (heap_alloc_new w1 (.cells o 257))
 have hd9:=Grow.heap hg HD9.out
 have hlo:w.heap.size+2<w1.heap.size:=(gE hd9).1
 have HLO:=LH hlo
 replace HD4:=LH (Grow.heap (hg.grow hgo) HD4.out)
 replace HD8:=LH (Grow.heap (hg.grow hgo) HD8.out)
 replace HD9:=LH (Grow.heap hgo hd9)
 replace HG:=LH (HG.out.grow (hg.grow hgo))
 replace H:=LH (H.out.grow (hg.grow hgo))
 have hne1:w1.heap.size≠w.heap.size:=by omega
 have hne2:w.heap.size≠w1.heap.size:=by omega
 clear hg hgo hd9 hlo c0 c1 c2 c3 c4 cf HFW
 obtain ⟨c0,c1,c2,c3,c4,cf⟩:=zA HD4.out
 obtain ⟨o0,o1,o2,o3,o4,o5,o6,of⟩:=zC HOB.out
 have how:=za HOI.out
 have hs1:IntKind.i64.wrap (1+obWords o)=1+obWords o:=IntWalk.i64_in _ (by omega)
 have hs2:IntKind.i64.wrap (paid+(1+obWords o))=paid+(1+obWords o):=IntWalk.i64_in _ (by omega)
 have heb:(fe==0)=true:=by simpa using hfe
 have hkb:(o.kind != 0)=false:=by simpa using hk
 have HER:Hid ((22:Int)≠0):=LH (by decide)
 clear hfe hl hk hno
 clear how
 go_wp2
 refine zE [0,1,2,3,4,5,6,7] [3,7] [1,2] [7] rfl (by kernel_rfl) ?_
 refine ord_p ?_
 refine oc1 c3 ?_
 refine oc7 o0 o1 o2 o3 o4 o5 o6 ?_
 refine zG rfl rfl rfl rfl rfl Tryz.func174 rfl rfl [.agg o] rfl ?_
 refine (show Calls Tryz.prog 174 #[.agg o] _ (fun e w'=>e=.returned (.int .i64 (obWords o))∧Grow _ w') from zRA o _ HOI.out.ok).mono ?_
 rintro e w3 ⟨rfl,hg⟩
 refine ⟨_,rfl,fun _=>hg,?_⟩
 have hgd:Grow (w1.alloc (.cells o 257)) w3:=(Keep.refl NoB (w1.alloc (.cells o 257))).drew.grow hg
 replace HD4:=LH (Grow.heap hgd HD4.out)
 replace HD8:=LH (Grow.heap hgd HD8.out)
 replace HD9:=LH (Grow.heap hgd HD9.out)
 replace HOB:=LH (Grow.heap hgd HOB.out)
 replace HG:=LH (HG.out.grow hgd)
 replace H:=LH (H.out.grow hgd)
 clear hg hgd c0 c1 c2 c3 c4 cf o0 o1 o2 o3 o4 o5 o6 of
 simp only [Act.put,pB,pC,pD]
 iterate 3
  refine ord_p ?_
 obtain ⟨c0,c1,c2,c3,c4,cf⟩:=zA HD4.out
 refine zJ rfl rfl rfl rfl ?_ ?_ (fun h=>absurd (by simp) h) ?_
 rotate_left
 ·go_simp;with_reducible rfl
 refine zD ?_
 have hk:Keep (fun j=>j=w.heap.size) w3 (w3.setCell ⟨w.heap.size,3,none⟩ (.int .i64 (paid+(1+obWords o)))):=(Keep.refl (fun j=>j=w.heap.size) w3).setCell (p:=⟨w.heap.size,3,none⟩) (.inl rfl) _
 have hd4:(w3.setCell ⟨w.heap.size,3,none⟩ (.int .i64 (paid+(1+obWords o)))).heap[w.heap.size]? = some (.cells #[.slice A a.length c,qL,qI,.int .i64 (paid+(1+obWords o)),qJ] 216 (0,0)):=by
  have h0:=HD4.out
  simp only [World.setCell,Array.getElem?_modify]
  simp [h0]
 replace HD8:=LH ((hk.block _ (gE HD8.out).1 (by omega)).trans HD8.out)
 replace HD9:=LH ((hk.block _ (gE HD9.out).1 (by omega)).trans HD9.out)
 replace HOB:=LH ((hk.block _ (gE HOB.out).1 (by have:=HLO.out;omega)).trans HOB.out)
 replace HG:=LH (HG.out.setCell (p:=⟨w.heap.size,3,none⟩) (.inr (Nat.le_refl _)) (.int .i64 (paid+(1+obWords o))))
 replace HD4:=LH hd4
 clear hk hd4 c0 c1 c2 c3 c4 cf
 revert HD4 HD8 HD9 HOB HG
 generalize w3.setCell ⟨w.heap.size,3,none⟩ (.int .i64 (paid+(1+obWords o)))=w4
 intro HD8 HD9 HOB HG HD4
 obtain ⟨c0,c1,c2,c3,c4,cf⟩:=zA HD4.out
 have hd4:(w4.setCell ⟨w.heap.size,4,none⟩ (.int .i64 22)).heap[w.heap.size]? = some (.cells #[.slice A a.length c,qL,qI,.int .i64 (paid+(1+obWords o)),.int .i64 22] 216 (0,0)):=by
  have h0:=HD4.out
  simp only [World.setCell,Array.getElem?_modify]
  simp [h0]
 have hk:Keep (fun j=>j=w.heap.size) w4 (w4.setCell ⟨w.heap.size,4,none⟩ (.int .i64 22)):=(Keep.refl (fun j=>j=w.heap.size) w4).setCell (p:=⟨w.heap.size,4,none⟩) (.inl rfl) _
 have hd8:=(hk.block _ (gE HD8.out).1 (by omega)).trans HD8.out
 have hd9:=(hk.block _ (gE HD9.out).1 (by omega)).trans HD9.out
 have hg5:=HG.out.setCell (p:=⟨w.heap.size,4,none⟩) (.inr (Nat.le_refl _)) (.int .i64 22)
 obtain ⟨x0,x1,x2,x3,x4,xf⟩:=zA hd4
 obtain ⟨y0,y1,y2,y3,y4,yf⟩:=zA hd8
 obtain ⟨hs6,hg6⟩:=zY (.slice A a.length c) (.bool false) (.slice none 0 0) (.int .i64 (paid+(1+obWords o))) (.int .i64 22) hg5 (by omega) hd8
 have hk6:=zb (c:=(w4.setCell ⟨w.heap.size,4,none⟩ (.int .i64 22))) (N:=w.heap.size+1) (.slice A a.length c) (.bool false) (.slice none 0 0) (.int .i64 (paid+(1+obWords o))) (.int .i64 22)
 have hd96:=(hk6.block _ (gE hd9).1 (by omega)).trans hd9
 obtain ⟨z0,z1,z2,z3,z4,zf⟩:=zA hd96
 obtain ⟨hs7,hg7⟩:=zY (.int .i64 0) (.int .i64 0) (.slice none 0 0) (.slice none 0 0) (.slice none 0 0) hg6 (by omega) hd96
 have hk7:=zb (c:=((((((w4.setCell ⟨w.heap.size,4,none⟩ (.int .i64 22)).setCell ⟨w.heap.size+1,0,none⟩ (.slice A a.length c)).setCell ⟨w.heap.size+1,1,none⟩ (.bool false)).setCell ⟨w.heap.size+1,2,none⟩ (.slice none 0 0)).setCell ⟨w.heap.size+1,3,none⟩ (.int .i64 (paid+(1+obWords o)))).setCell ⟨w.heap.size+1,4,none⟩ (.int .i64 22))) (N:=w.heap.size+2) (.int .i64 0) (.int .i64 0) (.slice none 0 0) (.slice none 0 0) (.slice none 0 0)
 have hs67:=(hk7.block _ (gE hs6).1 (by omega)).trans hs6
 have HR8:=LH hs67
 have HR9:=LH hs7
 have HGR:=LH hg7
 clear hk hd4 hd8 hd9 hg5 hs6 hg6 hk6 hd96 hs7 hg7 hk7 hs67
 go_wp2
 clear x0 x1 x2 x3 x4 xf y0 y1 y2 y3 y4 yf z0 z1 z2 z3 z4 zf
 revert HR8 HR9 HGR
 generalize (((((((((((w4.setCell ⟨w.heap.size,4,none⟩ (.int .i64 22)).setCell ⟨w.heap.size+1,0,none⟩ (.slice A a.length c)).setCell ⟨w.heap.size+1,1,none⟩ (.bool false)).setCell ⟨w.heap.size+1,2,none⟩ (.slice none 0 0)).setCell ⟨w.heap.size+1,3,none⟩ (.int .i64 (paid+(1+obWords o)))).setCell ⟨w.heap.size+1,4,none⟩ (.int .i64 22)).setCell ⟨w.heap.size+2,0,none⟩ (.int .i64 0)).setCell ⟨w.heap.size+2,1,none⟩ (.int .i64 0)).setCell ⟨w.heap.size+2,2,none⟩ (.slice none 0 0)).setCell ⟨w.heap.size+2,3,none⟩ (.slice none 0 0)).setCell ⟨w.heap.size+2,4,none⟩ (.slice none 0 0))=w7
 intro HR8 HR9 HGR
 obtain ⟨x0,x1,x2,x3,x4,xf⟩:=zA HR8.out
 obtain ⟨y0,y1,y2,y3,y4,yf⟩:=zA HR9.out
 refine bodyPost_ret (v:=.tuple #[.agg #[.slice A a.length c,qL,qI,.int .i64 (paid+(1+obWords o)),.int .i64 22],.agg qA]) ?_ rfl ?_
 ·rw [zKA rfl];go_simp
 ·rw [E0.out]
  exact ⟨(paid+(1+obWords o)),0,0,none,none,none,0,0,0,0,0,0,rfl,HGR.out,fun h=>absurd h (by first | exact HER.out | simp)⟩
theorem zZH (last:Bool) (f:Int→Int→Int→Tr×Int×Int) (a:List (List Int)) (ho:OkA a) (A:Option Addr) (c:Nat) (w:World) (h:RowsR .u64 a (.slice A a.length c) w) (seg at_ paid deep:Int) (p0:0≤paid) (p1:paid≤8192) (hl:last=decide (32≤deep)) (hfe:(followP (szs a) (wordA a) seg at_).2=0) (hno:¬ ((followP (szs a) (wordA a) seg at_).1.kind≠0∧last=true)) (hk:(followP (szs a) (wordA a) seg at_).1.kind≠0) (hd:¬ (32≤deep)) (hc:8192<paid+(1+obWords (followP (szs a) (wordA a) seg at_).1)) :
    Calls Tryz.prog 142 #[.agg #[.slice A a.length c,qL,qI,.int .i64 paid,qJ],.int .i64 seg,.int .i64 at_,.int .i64 deep] w (QNPost A a.length c (nodeS (szs a) (wordA a) last f seg at_ paid) w):=by
 have E0:Hid (nodeS (szs a) (wordA a) last f seg at_ paid=if (followP (szs a) (wordA a) seg at_).2=0 then if (followP (szs a) (wordA a) seg at_).1.kind≠0∧last=true then (tr0,21,paid+(1+obWords (followP (szs a) (wordA a) seg at_).1)) else if 8192<paid+(1+obWords (followP (szs a) (wordA a) seg at_).1) then (tr0,22,paid+(1+obWords (followP (szs a) (wordA a) seg at_).1)) else nodeT (wordA a) f (followP (szs a) (wordA a) seg at_).1 (paid+(1+obWords (followP (szs a) (wordA a) seg at_).1)) else (tr0,(followP (szs a) (wordA a) seg at_).2,paid)):=LH rfl
 have h2:=zU w (.cells #[.slice A a.length c,qL,qI,.int .i64 paid,qJ] 216) (.cells qF 216)
 have hsz2:((w.alloc (.cells #[.slice A a.length c,qL,qI,.int .i64 paid,qJ] 216)).alloc (.cells qF 216)).heap.size=w.heap.size+2:=by simp
 have hz:=heap_alloc_new ((w.alloc (.cells #[.slice A a.length c,qL,qI,.int .i64 paid,qJ] 216)).alloc (.cells qF 216)) (.cells qA 114)
 rw [hsz2] at hz
 have hgl:=(Keep.refl NoB ((w.alloc (.cells #[.slice A a.length c,qL,qI,.int .i64 paid,qJ] 216)).alloc (.cells qF 216))).alloc (.cells qA 114)
 have HD4:=LH (Grow.heap hgl h2.1)
 have HD8:=LH (Grow.heap hgl h2.2.1)
 have HD9:=LH hz
 have hg0:=h2.2.2.grow hgl
 have HG:=LH hg0
 have H:=LH (h.grow hg0)
 have HA:=LH ho
 have HOI:=LH (zd (zi ho) seg at_)
 have HFW:=LH (zJA a ho A c _ (h.grow hg0) seg at_)
 obtain ⟨c0,c1,c2,c3,c4,cf⟩:=zA HD4.out
 clear h ho h2 hsz2 hz hgl hg0
 replace E0:=LH (((E0.out.trans (if_pos hfe)).trans (if_neg hno)).trans (if_pos hc))
 go_enter Tryz.func142,Tryz.ntmps142
 go_wp2_with fail
 refine HFW.out.mono ?_
 rintro e w1 ⟨rfl,hg⟩
 generalize (followP (szs a) (wordA a) seg at_).1=o at *
 generalize (followP (szs a) (wordA a) seg at_).2=fe at *
 have hgo:=(Keep.refl NoB w1).alloc (.cells o 257)
 have HOB:=LH (heap_alloc_new w1 (.cells o 257))
 have hd9:=Grow.heap hg HD9.out
 have hlo:w.heap.size+2<w1.heap.size:=(gE hd9).1
 have HLO:=LH hlo
 replace HD4:=LH (Grow.heap (hg.grow hgo) HD4.out)
 replace HD8:=LH (Grow.heap (hg.grow hgo) HD8.out)
 replace HD9:=LH (Grow.heap hgo hd9)
 replace HG:=LH (HG.out.grow (hg.grow hgo))
 replace H:=LH (H.out.grow (hg.grow hgo))
 have hne1:w1.heap.size≠w.heap.size:=by omega
 have hne2:w.heap.size≠w1.heap.size:=by omega
 clear hg hgo hd9 hlo c0 c1 c2 c3 c4 cf HFW
 obtain ⟨c0,c1,c2,c3,c4,cf⟩:=zA HD4.out
 obtain ⟨o0,o1,o2,o3,o4,o5,o6,of⟩:=zC HOB.out
 have how:=za HOI.out
 have hs1:IntKind.i64.wrap (1+obWords o)=1+obWords o:=IntWalk.i64_in _ (by omega)
 have hs2:IntKind.i64.wrap (paid+(1+obWords o))=paid+(1+obWords o):=IntWalk.i64_in _ (by omega)
 have heb:(fe==0)=true:=by simpa using hfe
 have hkb:(o.kind != 0)=true:=by simpa using hk
 have HER:Hid ((22:Int)≠0):=LH (by decide)
 clear hfe hl hk hno
 clear how
 go_wp2
 refine zE [0,1,2,3,4,5,6,7] [3,7] [1,2] [7] rfl (by kernel_rfl) ?_
 refine ord_p ?_
 refine oc1 c3 ?_
 refine oc7 o0 o1 o2 o3 o4 o5 o6 ?_
 refine zG rfl rfl rfl rfl rfl Tryz.func174 rfl rfl [.agg o] rfl ?_
 refine (show Calls Tryz.prog 174 #[.agg o] _ (fun e w'=>e=.returned (.int .i64 (obWords o))∧Grow _ w') from zRA o _ HOI.out.ok).mono ?_
 rintro e w3 ⟨rfl,hg⟩
 refine ⟨_,rfl,fun _=>hg,?_⟩
 have hgd:Grow (w1.alloc (.cells o 257)) w3:=(Keep.refl NoB (w1.alloc (.cells o 257))).drew.grow hg
 replace HD4:=LH (Grow.heap hgd HD4.out)
 replace HD8:=LH (Grow.heap hgd HD8.out)
 replace HD9:=LH (Grow.heap hgd HD9.out)
 replace HOB:=LH (Grow.heap hgd HOB.out)
 replace HG:=LH (HG.out.grow hgd)
 replace H:=LH (H.out.grow hgd)
 clear hg hgd c0 c1 c2 c3 c4 cf o0 o1 o2 o3 o4 o5 o6 of
 simp only [Act.put,pB,pC,pD]
 iterate 3
  refine ord_p ?_
 obtain ⟨c0,c1,c2,c3,c4,cf⟩:=zA HD4.out
 refine zJ rfl rfl rfl rfl ?_ ?_ (fun h=>absurd (by simp) h) ?_
 rotate_left
 ·go_simp;with_reducible rfl
 refine zD ?_
 have hk:Keep (fun j=>j=w.heap.size) w3 (w3.setCell ⟨w.heap.size,3,none⟩ (.int .i64 (paid+(1+obWords o)))):=(Keep.refl (fun j=>j=w.heap.size) w3).setCell (p:=⟨w.heap.size,3,none⟩) (.inl rfl) _
 have hd4:(w3.setCell ⟨w.heap.size,3,none⟩ (.int .i64 (paid+(1+obWords o)))).heap[w.heap.size]? = some (.cells #[.slice A a.length c,qL,qI,.int .i64 (paid+(1+obWords o)),qJ] 216 (0,0)):=by
  have h0:=HD4.out
  simp only [World.setCell,Array.getElem?_modify]
  simp [h0]
 replace HD8:=LH ((hk.block _ (gE HD8.out).1 (by omega)).trans HD8.out)
 replace HD9:=LH ((hk.block _ (gE HD9.out).1 (by omega)).trans HD9.out)
 replace HOB:=LH ((hk.block _ (gE HOB.out).1 (by have:=HLO.out;omega)).trans HOB.out)
 replace HG:=LH (HG.out.setCell (p:=⟨w.heap.size,3,none⟩) (.inr (Nat.le_refl _)) (.int .i64 (paid+(1+obWords o))))
 replace HD4:=LH hd4
 clear hk hd4 c0 c1 c2 c3 c4 cf
 revert HD4 HD8 HD9 HOB HG
 generalize w3.setCell ⟨w.heap.size,3,none⟩ (.int .i64 (paid+(1+obWords o)))=w4
 intro HD8 HD9 HOB HG HD4
 obtain ⟨c0,c1,c2,c3,c4,cf⟩:=zA HD4.out
 have hd4:(w4.setCell ⟨w.heap.size,4,none⟩ (.int .i64 22)).heap[w.heap.size]? = some (.cells #[.slice A a.length c,qL,qI,.int .i64 (paid+(1+obWords o)),.int .i64 22] 216 (0,0)):=by
  have h0:=HD4.out
  simp only [World.setCell,Array.getElem?_modify]
  simp [h0]
 have hk:Keep (fun j=>j=w.heap.size) w4 (w4.setCell ⟨w.heap.size,4,none⟩ (.int .i64 22)):=(Keep.refl (fun j=>j=w.heap.size) w4).setCell (p:=⟨w.heap.size,4,none⟩) (.inl rfl) _
 have hd8:=(hk.block _ (gE HD8.out).1 (by omega)).trans HD8.out
 have hd9:=(hk.block _ (gE HD9.out).1 (by omega)).trans HD9.out
 have hg5:=HG.out.setCell (p:=⟨w.heap.size,4,none⟩) (.inr (Nat.le_refl _)) (.int .i64 22)
 obtain ⟨x0,x1,x2,x3,x4,xf⟩:=zA hd4
 obtain ⟨y0,y1,y2,y3,y4,yf⟩:=zA hd8
 obtain ⟨hs6,hg6⟩:=zY (.slice A a.length c) (.bool false) (.slice none 0 0) (.int .i64 (paid+(1+obWords o))) (.int .i64 22) hg5 (by omega) hd8
 have hk6:=zb (c:=(w4.setCell ⟨w.heap.size,4,none⟩ (.int .i64 22))) (N:=w.heap.size+1) (.slice A a.length c) (.bool false) (.slice none 0 0) (.int .i64 (paid+(1+obWords o))) (.int .i64 22)
 have hd96:=(hk6.block _ (gE hd9).1 (by omega)).trans hd9
 obtain ⟨z0,z1,z2,z3,z4,zf⟩:=zA hd96
 obtain ⟨hs7,hg7⟩:=zY (.int .i64 0) (.int .i64 0) (.slice none 0 0) (.slice none 0 0) (.slice none 0 0) hg6 (by omega) hd96
 have hk7:=zb (c:=((((((w4.setCell ⟨w.heap.size,4,none⟩ (.int .i64 22)).setCell ⟨w.heap.size+1,0,none⟩ (.slice A a.length c)).setCell ⟨w.heap.size+1,1,none⟩ (.bool false)).setCell ⟨w.heap.size+1,2,none⟩ (.slice none 0 0)).setCell ⟨w.heap.size+1,3,none⟩ (.int .i64 (paid+(1+obWords o)))).setCell ⟨w.heap.size+1,4,none⟩ (.int .i64 22))) (N:=w.heap.size+2) (.int .i64 0) (.int .i64 0) (.slice none 0 0) (.slice none 0 0) (.slice none 0 0)
 have hs67:=(hk7.block _ (gE hs6).1 (by omega)).trans hs6
 have HR8:=LH hs67
 have HR9:=LH hs7
 have HGR:=LH hg7
 clear hk hd4 hd8 hd9 hg5 hs6 hg6 hk6 hd96 hs7 hg7 hk7 hs67
 go_wp2
 clear x0 x1 x2 x3 x4 xf y0 y1 y2 y3 y4 yf z0 z1 z2 z3 z4 zf
 revert HR8 HR9 HGR
 generalize (((((((((((w4.setCell ⟨w.heap.size,4,none⟩ (.int .i64 22)).setCell ⟨w.heap.size+1,0,none⟩ (.slice A a.length c)).setCell ⟨w.heap.size+1,1,none⟩ (.bool false)).setCell ⟨w.heap.size+1,2,none⟩ (.slice none 0 0)).setCell ⟨w.heap.size+1,3,none⟩ (.int .i64 (paid+(1+obWords o)))).setCell ⟨w.heap.size+1,4,none⟩ (.int .i64 22)).setCell ⟨w.heap.size+2,0,none⟩ (.int .i64 0)).setCell ⟨w.heap.size+2,1,none⟩ (.int .i64 0)).setCell ⟨w.heap.size+2,2,none⟩ (.slice none 0 0)).setCell ⟨w.heap.size+2,3,none⟩ (.slice none 0 0)).setCell ⟨w.heap.size+2,4,none⟩ (.slice none 0 0))=w7
 intro HR8 HR9 HGR
 obtain ⟨x0,x1,x2,x3,x4,xf⟩:=zA HR8.out
 obtain ⟨y0,y1,y2,y3,y4,yf⟩:=zA HR9.out
 refine bodyPost_ret (v:=.tuple #[.agg #[.slice A a.length c,qL,qI,.int .i64 (paid+(1+obWords o)),.int .i64 22],.agg qA]) ?_ rfl ?_
 ·rw [zKA rfl];go_simp
 ·rw [E0.out]
  exact ⟨(paid+(1+obWords o)),0,0,none,none,none,0,0,0,0,0,0,rfl,HGR.out,fun h=>absurd h (by first | exact HER.out | simp)⟩
end Go.Proofs.YtfkcpaahdlkcdaaGreat

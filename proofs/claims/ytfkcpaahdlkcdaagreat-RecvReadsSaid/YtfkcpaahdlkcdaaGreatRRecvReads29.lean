import Derived.Test.YtfkcpaahdlkcdaaGreatRRecvReads28
set_option linter.unusedSimpArgs false
set_option linter.unusedVariables false
set_option maxRecDepth 100000
set_option maxHeartbeats 16000000
namespace Go.Proofs.YtfkcpaahdlkcdaaGreat
open Go.RowKit
section
variable {P:Program} {ops:Array Oper} {Q:Exit→Act→World→Prop} {ds:List Nat} {S:Nat→Prop} {R:Act→World→Prop} {acts reads rest:List Nat} {a:Act} {w:World} {i:Nat} {o:Oper}
theorem zaD (w:World) (g off:Nat) (t ty:TypeId) (old cells new:Array Value) (hg:w.heap[g]? = some (.cells old t (0,0))) (hi:(P.info? ty).map (·.size)=some cells.size)
    (ho:off+cells.size≤old.size) (hnew:(old.toList.take off++cells.toList++old.toList.drop (off+cells.size)).toArray=new) (h1:cells.all (·.oneCell')=true) :
    (storeVar ty ⟨g,off,none⟩ (.agg cells)).run P w=.ok () (w.setRow g new):=by
 have:=run_storeCells_at P g off t cells.toList 0 old w hg (by simpa using ho) (fun v hv=>(Array.all_eq_true_iff_forall_mem.1 h1) v (by simpa using hv))
 simp only [Nat.add_zero,Array.length_toList,hnew] at this
 cases hq:P.info? ty with
 | none=>simp [hq] at hi
 | some i =>
  have hs:cells.size=i.size:=by simp [hq] at hi;omega
  simp [storeVar,sizeOf,typeInfo,hq,Value.cells,hs,this]
theorem zsB (hl:ops.toList[i]? = some o) (ha:acts.contains i=true) (hN:o.dst=none) (hg:o.guard=none) (ty:TypeId) (x y:Operand) (hop:o.op=Op.store ty x y) (g off:Nat) (cells:Array Value) (hx:a.eval x=.pointer (some ⟨g,off,none⟩)) (hy:a.eval y=.agg cells)
    (t:TypeId) (old new:Array Value) (hgc:w.heap[g]? = some (.cells old t (0,0))) (hi:(P.info? ty).map (·.size)=some cells.size) (ho:off+cells.size≤old.size) (hnew:(old.toList.take off++cells.toList++old.toList.drop (off+cells.size)).toArray=new) (h1:cells.all (·.oneCell')=true)
    (hk:i∉ds→Keep S w (w.setRow g new)) (h:wpOrdC S P ops Q R acts reads ds rest a (w.setRow g new)):wpOrdC S P ops Q R acts reads ds (i :: rest) a w:=by
 refine zmA hl ha (fun K hK=>?_)
 rw [if_pos (by simp [Region.wanted,hg])]
 unfold Oper.wp execOp
 simp only [hop,hx,hy,Instr.storeAt,Instr.sureAddr,Sem.run_bind,Sem.run_pure,Result.andThen_ok,zaD w g off t ty old cells new hgc hi ho hnew h1]
 have hp:=hK _ _ ⟨hk,h⟩
 rw [← show a.put o.dst undef=a by rw [hN];rfl] at hp
 exact hp
end
def RC.begin (d:RC) (p:Addr) (s:Int) (m:Nat):RC:={ d with part:=some p,phase:=1,session:=s,sum:=m }
theorem zeC {g:Nat} {d:RC} {w:World} (h:RCell g d w) (e:Nat) (he:e≤100) :
    Calls Tryz.prog 181 #[.pointer (some ⟨g,0,none⟩),.int .u16 e] w fun ee w'=>∃ b,ee=.returned (.slice (some ⟨b,0,none⟩) 1 1)∧OneG w' b 5 d.session e 0 d.sum∧w.heap.size≤b∧RCell g (d.fail e) w'∧Keep (fun k=>k=g) w w':=by
 have H:=LH h
 clear h
 go_enter Tryz.func181,Tryz.ntmps181
 go_wp2_with fail
 refine (zFC H.out e).mono ?_
 rintro ee w1 ⟨⟨v,rfl⟩,hr,hk⟩
 have HR:=LH hr
 have HK:=LH hk
 clear hr hk
 have hcv:(e:Int)≤65535:=by omega
 go_wp2_with fail
 refine (zhD HR.out 5 e).mono ?_
 rintro ee w2 ⟨rfl,hg⟩
 replace HK:=LH (HK.out.grow hg)
 replace HR:=LH (HR.out.grow hg)
 clear hg
 go_wp2
 go_ret
 have hsz:=HK.out.size
 refine ⟨_,rfl,heap_alloc_new w2 _,hsz,HR.out.grow ((Keep.refl NoB w2).alloc _),HK.out.grow ((Keep.refl NoB w2).alloc _)⟩
theorem zKD {g:Nat} {d:RC} {w:World} (hc:RCell g d w) (session:Int) (sum:Nat) (h01:0≤session∧session≤18446744073709551615) (hsum:sum<4294967296) (A:Option Addr) (c:Nat) (l:List Int) (hf:fitsB l=true) (n:Nat) (hn:l.sum=(n:Int)) (h:SliceR 1 (.slice A l.length c) l.length (ints l) w) :
    Calls Tryz.prog 104 #[.pointer (some ⟨g,0,none⟩),.agg #[.int .u64 session,.slice A l.length c,.int .u32 (sum:Nat)]] w fun e w'=>(∃ v,e=.returned v)∧∃ b p G,RCell g (d.begin ⟨b,0,none⟩ session sum) w'∧Keep (fun k=>k=g) w w'∧PAt b p ⟨session,l,sum,List.replicate n 0,makeB (chunksN l)⟩ G w'∧w.heap.size≤b∧w.heap.size≤p.wb∧∀ k,G k→w.heap.size≤k:=by
 have hg0:=(Keep.refl NoB w).alloc (.cells #[.int .u64 session,.slice A l.length c,.int .u32 (sum:Nat)] 40)
 have HN:=LH (zUI session sum h01 hsum A c l hf n hn _ (h.grow hg0))
 have HZ:=LH (heap_alloc_new w (.cells #[.int .u64 session,.slice A l.length c,.int .u32 (sum:Nat)] 40))
 have H:=LH (hc.grow hg0)
 have hlt:=hc.lt
 have HG:=LH hg0
 clear hc hg0 h hf h01 hsum hn
 go_enter Tryz.func104,Tryz.ntmps104
 obtain ⟨z0,z1,z2,zf⟩:=zI HZ.out
 go_wp2_with fail
 refine HN.out.mono ?_
 rintro e w1 ⟨b,p,G,rfl,hg,hP,hb,hpw,hG⟩
 replace H:=LH (H.out.grow hg)
 replace HZ:=LH (Grow.heap hg HZ.out)
 have hsz:=HG.out.size
 replace HG:=LH (HG.out.grow hg)
 have HP:=LH hP
 have HB:=LH (show w.heap.size≤b∧w.heap.size≤p.wb∧∀ k,G k→w.heap.size≤k from ⟨Nat.le_trans hsz hb,Nat.le_trans hsz hpw,fun k hk=>Nat.le_trans hsz (hG k hk)⟩)
 clear z0 z1 z2 zf HN hg hP hb hpw hG hsz
 obtain ⟨c0,c1,c2,c3,c4,c5,c6,c7,c8,c9,c10,c11,c12,c13,c14,c15,c16,c17,c18,c19,c20,cf⟩:=zH H.out
 have h1:=H.out.put (d':={ d with part:=some ⟨b,0,none⟩ }) 0 (.pointer (some ⟨b,0,none⟩)) rfl
 have hgb:g≠w.heap.size:=by omega
 go_wp2
 obtain ⟨w2,hw2⟩:∃ w2,w1.setCell ⟨g,0,none⟩ (.pointer (some ⟨b,0,none⟩))=w2:=⟨_,rfl⟩
 rw [hw2] at h1 ⊢
 have HZ2:=LH ((h1.2.block _ (gE HZ.out).1 (fun e=>hgb e.symm)).trans HZ.out)
 have H1:=LH h1
 clear h1 hw2 c0 c1 c2 c3 c4 c5 c6 c7 c8 c9 c10 c11 c12 c13 c14 c15 c16 c17 c18 c19 c20 cf
 obtain ⟨c0,c1,c2,c3,c4,c5,c6,c7,c8,c9,c10,c11,c12,c13,c14,c15,c16,c17,c18,c19,c20,cf⟩:=zH H1.out.1
 obtain ⟨z0,z1,z2,zf⟩:=zI HZ2.out
 have HE:=LH (show ¬ w.heap.size=g from fun e=>hgb e.symm)
 refine ze (fun k=>k=g) [0,1,2,3,4,5,6,7,8,9,10,11,12,13,14,15] [9,12,15] [4,6] [] rfl (by kernel_rfl) ?_
 iterate 4
  refine ord_p ?_
 refine oc1 z0 ?_ (s0:=HE.out)
 refine ord_p ?_
 refine oc1 z2 ?_ (s0:=HE.out)
 iterate 2
  refine ord_p ?_
 refine zJ rfl rfl rfl rfl ?_ ?_ ?_ ?_
 rotate_left
 ·go_simp;with_reducible rfl
 ·exact fun _=>zV _ _ _ _
 iterate 2
  refine ord_p ?_
 refine zJ rfl rfl rfl rfl ?_ ?_ ?_ ?_
 rotate_left
 ·go_simp;with_reducible rfl
 ·exact fun _=>zV _ _ _ _
 iterate 2
  refine ord_p ?_
 refine zJ rfl rfl rfl rfl ?_ ?_ ?_ ?_
 rotate_left
 ·go_simp;with_reducible rfl
 ·exact fun _=>zV _ _ _ _
 refine zD ?_
 have h3:=(show RCell g _ w2.drew from H1.out.1).put (d':={ d with part:=some ⟨b,0,none⟩,phase:=1 }) 6 (.int .i64 1) rfl
 have h4:=h3.1.put (d':={ d with part:=some ⟨b,0,none⟩,phase:=1,session:=session }) 8 (.int .u64 session) rfl
 have h5:=h4.1.put (d':=d.begin ⟨b,0,none⟩ session sum) 9 (.int .u32 (sum:Nat)) rfl
 have hk1:=((H1.out.2.drew.trans h3.2 (fun _ h=>.inl h)).trans h4.2 (fun _ h=>.inl h)).trans h5.2 (fun _ h=>.inl h)
 have hk:=(HG.out.mono (T:=fun k=>k=g) (fun _ h=>h.elim)).trans hk1 (fun _ h=>.inl h)
 have hP:=HP.out.keep hk1 (by have:=HB.out.1;omega) (by have:=HB.out.2.1;omega) (fun j hj e=>by have:=HB.out.2.2 j hj;omega)
 have HN:=LH (And.intro h5.1 (And.intro hk hP))
 clear h3 h4 h5 hk1 hk hP c0 c1 c2 c3 c4 c5 c6 c7 c8 c9 c10 c11 c12 c13 c14 c15 c16 c17 c18 c19 c20 cf
 go_wp2
 go_end0
 exact ⟨⟨_,rfl⟩,b,p,G,HN.out.1,HN.out.2.1,HN.out.2.2,HB.out⟩
end Go.Proofs.YtfkcpaahdlkcdaaGreat
namespace Go.Proofs.YtfkcpaahdlkcdaaGreat
open Go.RowKit
def stepP (sz:List Int) (wd:Int→Int→Int×Int) (o:Ob) (k:Int):Ob×Int :=
 if o.kind=0∨(o.kind=1∧o.ptrs≤k) then (ob0,0)
 else if o.kind=1 then followP sz wd o.seg (o.at_+k+o.data)
 else if o.size≠6 then (o,23)
 else if o.count≤k then (o,20)
 else followP sz wd o.seg (o.at_+k)
theorem ObIn.few {o:Ob} (h:ObIn o):o.at_≤100000∧o.at_+o.data≤200000∧(o.kind=0∨o.kind=1∨o.kind=2):=by
 have ha:=h.at0
 have hd:=h.ok.d
 have hq:=h.ok.q
 have hc:=h.ok.c
 rcases h.cases with rfl | ⟨h1,_,_,h4⟩ | ⟨h1,h2,h3,h4⟩
 ·simp [ob0]
 ·omega
 ·rcases h4 with ⟨_,h4⟩ | ⟨_,h4⟩ | ⟨_,h4⟩ <;> omega
theorem WkAt.zero {g:Nat} {sv:Value} {o:Ob} {left:Int} {u:World} (h:WkAt g sv o left u):WkAt g sv ob0 left (((((((u.setCell ⟨g,1,none⟩ (.int .i64 0)).setCell ⟨g,2,none⟩ (.int .i64 0)).setCell ⟨g,3,none⟩ (.int .i64 0)).setCell ⟨g,4,none⟩ (.int .i64 0)).setCell ⟨g,5,none⟩ (.int .i64 0)).setCell ⟨g,6,none⟩ (.int .i64 0)).setCell ⟨g,7,none⟩ (.int .i64 0))∧Keep (fun j=>j=g) u (((((((u.setCell ⟨g,1,none⟩ (.int .i64 0)).setCell ⟨g,2,none⟩ (.int .i64 0)).setCell ⟨g,3,none⟩ (.int .i64 0)).setCell ⟨g,4,none⟩ (.int .i64 0)).setCell ⟨g,5,none⟩ (.int .i64 0)).setCell ⟨g,6,none⟩ (.int .i64 0)).setCell ⟨g,7,none⟩ (.int .i64 0)):=by
 refine ⟨?_,(((((((Keep.refl (fun j=>j=g) u).setCell (p:=⟨g,1,none⟩) (.inl rfl) _).setCell (p:=⟨g,2,none⟩) (.inl rfl) _).setCell (p:=⟨g,3,none⟩) (.inl rfl) _).setCell (p:=⟨g,4,none⟩) (.inl rfl) _).setCell (p:=⟨g,5,none⟩) (.inl rfl) _).setCell (p:=⟨g,6,none⟩) (.inl rfl) _).setCell (p:=⟨g,7,none⟩) (.inl rfl) _⟩
 unfold WkAt at h ⊢
 simp only [World.setCell,Array.getElem?_modify]
 simp [h,ob0]
theorem zqJ {g:Nat} {sv:Value} {o:Ob} {left:Int} {u:World} (h:WkAt g sv o left u) (o2:Ob):WkAt g sv o2 left (u.setRow g #[sv,.int .i64 o2.kind,.int .i64 o2.seg,.int .i64 o2.at_,.int .i64 o2.data,.int .i64 o2.ptrs,.int .i64 o2.size,.int .i64 o2.count,.int .i64 left])∧Keep (fun j=>j=g) u (u.setRow g #[sv,.int .i64 o2.kind,.int .i64 o2.seg,.int .i64 o2.at_,.int .i64 o2.data,.int .i64 o2.ptrs,.int .i64 o2.size,.int .i64 o2.count,.int .i64 left]):=by
 refine ⟨?_,Keep.setRow (S:=fun j=>j=g) (Keep.refl _ u) (.inl rfl) _⟩
 unfold WkAt at h ⊢
 simp only [World.setRow,Array.getElem?_modify]
 simp [h]
theorem zHH {g:Nat} {sv:Value} {o:Ob} {left k:Int} {sz:List Int} {wd:Int→Int→Int×Int} {w:World} (h:WkAt g sv o left w) (hS:Sou sv sz wd w) (hO:SouOk sz wd) (ho:ObIn o) (hk0:0≤k) (hk1:k≤1000000) :
    Calls Tryz.prog 235 #[.pointer (some ⟨g,0,none⟩),.int .i64 k] w fun e w'=>e=.returned (.int .u16 (stepP sz wd o k).2)∧WkAt g sv (stepP sz wd o k).1 left w'∧Keep (fun j=>j=g) w w':=by
 obtain ⟨f1,f2,f3⟩:=ho.few
 have ha0:=ho.at0
 have hd0:=ho.ok.d
 have hg:=(Keep.refl NoB w).alloc (.cells o 257)
 have hnew:=heap_alloc_new w (.cells o 257)
 have H:=LH h
 have H1:=LH (show WkAt g sv o left (w.alloc (.cells o 257)) from Grow.heap hg h)
 have HS:=LH (hS.grow hg)
 have HO:=LH hO
 have HG:=LH hg
 have HN:=LH hnew
 have hw1:IntKind.i64.wrap (o.at_+k)=o.at_+k:=IntWalk.i64_in _ (by omega)
 have hw2:IntKind.i64.wrap (o.at_+k+o.data)=o.at_+k+o.data:=IntWalk.i64_in _ (by omega)
 obtain ⟨c0,c1,c2,c3,c4,c5,c6,c7,c8,cf⟩:=zkA h
 have hne:g≠w.heap.size:=by have:=(gE h).1;omega
 have hca:∀ (ob:Obj) (i:Nat),(w.alloc ob).cell? ⟨g,i,none⟩=w.cell? ⟨g,i,none⟩:=fun ob i=>World.cell?_alloc_old _ _ _ hne
 have hfa:∀ (ob:Obj) (i:Nat),(w.alloc ob).frozen? ⟨g,i,none⟩=false:=fun ob i=>(World.frozen?_alloc_old _ _ _ hne).trans (zN i h)
 have E:Hid (stepP sz wd o k=if o.kind=0∨(o.kind=1∧o.ptrs≤k) then (ob0,0) else if o.kind=1 then followP sz wd o.seg (o.at_+k+o.data) else if o.size≠6 then (o,23) else if o.count≤k then (o,20) else followP sz wd o.seg (o.at_+k)):=LH rfl
 clear h hS hO ho hg hnew f1 f2 ha0 hd0
 rcases f3 with k0 | k1 | k2
 ·rw [if_pos (.inl k0)] at E
  have kb:(o.kind==0)=true:=by rw [k0];rfl
  clear k0 hw2
  go_enter Tryz.func235,Tryz.ntmps235
  go_wp2
  go_ret
  exact ⟨by rw [E.out];rfl,by rw [E.out];exact H1.out.zero.1,(HG.out.mono (fun _ h=>h.elim)).trans H1.out.zero.2 (fun _ h=>.inl h)⟩
 ·have kb:(o.kind==0)=false:=by rw [k1];rfl
  have kb1:(o.kind==1)=true:=by rw [k1];rfl
  by_cases hp:o.ptrs≤k
  ·rw [if_pos (.inr ⟨k1,hp⟩)] at E
   clear k1 hw2
   go_enter Tryz.func235,Tryz.ntmps235
   go_wp2
   go_ret
   exact ⟨by rw [E.out];rfl,by rw [E.out];exact H1.out.zero.1,(HG.out.mono (fun _ h=>h.elim)).trans H1.out.zero.2 (fun _ h=>.inl h)⟩
  ·rw [if_neg (by omega),if_pos k1] at E
   clear k1
   go_enter Tryz.func235,Tryz.ntmps235
   go_wp2
   obtain ⟨d0,d1,d2,d3,d4,d5,d6,d7,d8,df⟩:=zkA H1.out
   obtain ⟨n0,n1,n2,n3,n4,n5,n6,nf⟩:=zC HN.out
   refine zE [0,1,2,3,4,5,6,7,8,9,10,11,12,13,14,15] [8,14,15] [4,6] [14] rfl (by kernel_rfl) ?_
   iterate 4
    refine ord_p ?_
   refine oc1 d0 ?_
   refine ord_p ?_
   refine oc1 n1 ?_
   refine ord_p ?_
   refine zG rfl rfl rfl rfl rfl Tryz.func233 rfl rfl [sv,.int .i64 o.seg,.int .i64 (o.at_+k+o.data)] rfl ?_
   refine (zy (HS.out.grow (Keep.refl NoB _).drew) HO.out o.seg (o.at_+k+o.data)).mono ?_
   rintro e w1 ⟨rfl,hg1⟩
   refine ⟨_,rfl,fun _=>hg1,?_⟩
   simp only [Act.put,pB,pC,pD]
   iterate 5
    refine ord_p ?_
   have hgd:=(Keep.refl NoB (w.alloc (.cells o 257))).drew.grow hg1
   have H2:WkAt g sv o left w1:=Grow.heap hgd H1.out
   refine zsB rfl rfl rfl rfl _ _ _ rfl g 1 (followP sz wd o.seg (o.at_+k+o.data)).1 rfl rfl _ _ #[sv,.int .i64 (followP sz wd o.seg (o.at_+k+o.data)).1.kind,.int .i64 (followP sz wd o.seg (o.at_+k+o.data)).1.seg,.int .i64 (followP sz wd o.seg (o.at_+k+o.data)).1.at_,.int .i64 (followP sz wd o.seg (o.at_+k+o.data)).1.data,.int .i64 (followP sz wd o.seg (o.at_+k+o.data)).1.ptrs,.int .i64 (followP sz wd o.seg (o.at_+k+o.data)).1.size,.int .i64 (followP sz wd o.seg (o.at_+k+o.data)).1.count,.int .i64 left] H2 (by kernel_rfl) (by simp) rfl (by simp [Value.oneCell']) (fun h=>absurd (by simp) h) ?_
   refine ord_s ?_
   refine zD ?_
   obtain ⟨r1,r2⟩:=zqJ H2 (followP sz wd o.seg (o.at_+k+o.data)).1
   have HF:=LH (And.intro r1 (((HG.out.mono (T:=fun j=>j=g) (fun _ h=>h.elim)).trans (hgd.mono (T:=fun j=>j=g) (fun _ h=>h.elim)) (fun _ h=>.inl h)).trans r2 (fun _ h=>.inl h)))
   clear r1 r2 hgd H2 hg1 HS HN H H1 d0 d1 d2 d3 d4 d5 d6 d7 d8 df n0 n1 n2 n3 n4 n5 n6 nf
   go_wp2
   go_ret
   exact ⟨by rw [E.out];rfl,by rw [E.out];exact HF.out.1,HF.out.2⟩
 ·have kb:(o.kind==0)=false:=by rw [k2];rfl
  have kb1:(o.kind==1)=false:=by rw [k2];rfl
  rw [if_neg (by omega),if_neg (by omega)] at E
  clear k2 hw2
  by_cases hs:o.size=6
  ·have hsb:(o.size != 6)=false:=by rw [hs];rfl
   rw [if_neg (fun h=>h hs)] at E
   clear hs
   by_cases hc:o.count≤k
   ·rw [if_pos hc] at E
    go_enter Tryz.func235,Tryz.ntmps235
    go_wp2
    go_ret
    exact ⟨by rw [E.out];rfl,by rw [E.out];exact H1.out,HG.out.mono (fun _ h=>h.elim)⟩
   ·rw [if_neg hc] at E
    go_enter Tryz.func235,Tryz.ntmps235
    go_wp2
    obtain ⟨d0,d1,d2,d3,d4,d5,d6,d7,d8,df⟩:=zkA H1.out
    obtain ⟨n0,n1,n2,n3,n4,n5,n6,nf⟩:=zC HN.out
    refine zE [0,1,2,3,4,5,6,7,8,9,10,11,12,13,14,15] [8,14,15] [4,6] [14] rfl (by kernel_rfl) ?_
    iterate 4
     refine ord_p ?_
    refine oc1 d0 ?_
    refine ord_p ?_
    refine oc1 n1 ?_
    refine ord_p ?_
    refine zG rfl rfl rfl rfl rfl Tryz.func233 rfl rfl [sv,.int .i64 o.seg,.int .i64 (o.at_+k)] rfl ?_
    refine (zy (HS.out.grow (Keep.refl NoB _).drew) HO.out o.seg (o.at_+k)).mono ?_
    rintro e w1 ⟨rfl,hg1⟩
    refine ⟨_,rfl,fun _=>hg1,?_⟩
    simp only [Act.put,pB,pC,pD]
    iterate 5
     refine ord_p ?_
    have hgd:=(Keep.refl NoB (w.alloc (.cells o 257))).drew.grow hg1
    have H2:WkAt g sv o left w1:=Grow.heap hgd H1.out
    refine zsB rfl rfl rfl rfl _ _ _ rfl g 1 (followP sz wd o.seg (o.at_+k)).1 rfl rfl _ _ #[sv,.int .i64 (followP sz wd o.seg (o.at_+k)).1.kind,.int .i64 (followP sz wd o.seg (o.at_+k)).1.seg,.int .i64 (followP sz wd o.seg (o.at_+k)).1.at_,.int .i64 (followP sz wd o.seg (o.at_+k)).1.data,.int .i64 (followP sz wd o.seg (o.at_+k)).1.ptrs,.int .i64 (followP sz wd o.seg (o.at_+k)).1.size,.int .i64 (followP sz wd o.seg (o.at_+k)).1.count,.int .i64 left] H2 (by kernel_rfl) (by simp) rfl (by simp [Value.oneCell']) (fun h=>absurd (by simp) h) ?_
    refine ord_s ?_
    refine zD ?_
    obtain ⟨r1,r2⟩:=zqJ H2 (followP sz wd o.seg (o.at_+k)).1
    have HF:=LH (And.intro r1 (((HG.out.mono (T:=fun j=>j=g) (fun _ h=>h.elim)).trans (hgd.mono (T:=fun j=>j=g) (fun _ h=>h.elim)) (fun _ h=>.inl h)).trans r2 (fun _ h=>.inl h)))
    clear r1 r2 hgd H2 hg1 HS HN H H1 d0 d1 d2 d3 d4 d5 d6 d7 d8 df n0 n1 n2 n3 n4 n5 n6 nf
    go_wp2
    go_ret
    exact ⟨by rw [E.out];rfl,by rw [E.out];exact HF.out.1,HF.out.2⟩
  ·have hsb:(o.size != 6)=true:=bne_iff_ne.2 hs
   rw [if_pos hs] at E
   clear hs
   go_enter Tryz.func235,Tryz.ntmps235
   go_wp2
   go_ret
   exact ⟨by rw [E.out];rfl,by rw [E.out];exact H1.out,HG.out.mono (fun _ h=>h.elim)⟩
def byteI (x k:Int):Int:=x/2 ^ (8*(k%8)).toNat%256
def wordP (wd:Int→Int→Int×Int) (o:Ob) (k:Int):Int×Int :=
 if o.kind=0∨(o.kind=1∧o.data≤k) then (0,0)
 else if o.kind=1 then wd o.seg (o.at_+k)
 else if o.size=6 then (0,23)
 else if o.count≤k then (0,20)
 else if o.size=5 then wd o.seg (o.at_+k)
 else (byteI (wd o.seg (o.at_+k/8)).1 k,(wd o.seg (o.at_+k/8)).2)
theorem zQG {g:Nat} {sv:Value} {o:Ob} {left k:Int} {sz:List Int} {wd:Int→Int→Int×Int} {w:World} (h:WkAt g sv o left w) (hS:Sou sv sz wd w) (hO:SouOk sz wd) (ho:ObIn o) (hk0:0≤k) (hk1:k≤1000000) :
    Calls Tryz.prog 237 #[.pointer (some ⟨g,0,none⟩),.int .i64 k] w fun e w'=>e=.returned (.tuple #[.int .u64 (wordP wd o k).1,.int .u16 (wordP wd o k).2])∧Grow w w':=by
 obtain ⟨f1,f2,f3⟩:=ho.few
 have ha0:=ho.at0
 have hg:=(Keep.refl NoB w).alloc (.cells o 257)
 have HN:=LH (heap_alloc_new w (.cells o 257))
 have H1:=LH (Grow.heap hg h)
 obtain ⟨T,pv,fw,fs,r,rfl,h2,h3,k1,k2,h4,h5⟩:=hS.out
 have H4:=LH h4
 have HG:=LH hg
 have HV:=LH hO.val
 have hw1:IntKind.i64.wrap (o.at_+k)=o.at_+k:=IntWalk.i64_in _ (by omega)
 obtain ⟨c0,c1,c2,c3,c4,c5,c6,c7,c8,cf⟩:=zkA h
 have E:Hid (wordP wd o k=if o.kind=0∨(o.kind=1∧o.data≤k) then (0,0) else if o.kind=1 then wd o.seg (o.at_+k) else if o.size=6 then (0,23) else if o.count≤k then (0,20) else if o.size=5 then wd o.seg (o.at_+k) else (byteI (wd o.seg (o.at_+k/8)).1 k,(wd o.seg (o.at_+k/8)).2)):=LH rfl
 clear h hS ho hg hO h3 k2 h4 h5
 rcases f3 with h0 | h0 | h0
 ·have kb:(o.kind==0)=true:=by rw [h0];rfl
  rw [if_pos (.inl h0)] at E
  clear h0
  go_enter Tryz.func237,Tryz.ntmps237
  go_wp2
  go_ret2
  exact ⟨by rw [E.out];rfl,HG.out⟩
 ·have kb:(o.kind==0)=false:=by rw [h0];rfl
  have kb1:(o.kind==1)=true:=by rw [h0];rfl
  by_cases hd:o.data≤k
  ·rw [if_pos (.inr ⟨h0,hd⟩)] at E
   clear h0
   go_enter Tryz.func237,Tryz.ntmps237
   go_wp2
   go_ret2
   exact ⟨by rw [E.out];rfl,HG.out⟩
  ·rw [if_neg (by omega),if_pos h0] at E
   clear h0
   go_enter Tryz.func237,Tryz.ntmps237
   go_wp2
   obtain ⟨d0,d1,d2,d3,d4,d5,d6,d7,d8,df⟩:=zkA H1.out
   obtain ⟨n0,n1,n2,n3,n4,n5,n6,nf⟩:=zC HN.out
   refine zE [0,1,2,3,4,5,6,7,8,9,10,11,12,13,14] [10,13,14] [3,5,7] [] rfl (by kernel_rfl) ?_
   iterate 3
    refine ord_p ?_
   refine oc1 d0 ?_
   refine ord_p ?_
   refine oc1 n1 ?_
   refine ord_p ?_
   refine oc1 n2 ?_
   iterate 2
    refine ord_p ?_
   refine zvB rfl rfl rfl rfl (f:=fw) (args:=#[r,.int .i64 o.seg,.int .i64 (o.at_+k)]) (by go_simp) ?_
   refine (H4.out _ (HG.out.grow (Keep.refl NoB _).drew) o.seg (o.at_+k)).mono ?_
   rintro e w1 ⟨rfl,hg1⟩
   refine ⟨_,rfl,fun _=>hg1,?_⟩
   simp only [Act.put,pB,pC,pD]
   iterate 2
    refine ord_p ?_
   iterate 2
    refine ord_s ?_
   refine zD ?_
   have HF:=LH ((HG.out.grow (Keep.refl NoB _).drew).grow hg1)
   clear hg1 H4 HG HN H1 d0 d1 d2 d3 d4 d5 d6 d7 d8 df n0 n1 n2 n3 n4 n5 n6 nf
   go_wp2
   go_ret2
   exact ⟨by rw [E.out];rfl,HF.out⟩
 ·have kb:(o.kind==0)=false:=by rw [h0];rfl
  have kb1:(o.kind==1)=false:=by rw [h0];rfl
  rw [if_neg (by omega),if_neg (by omega)] at E
  clear h0
  by_cases hs:o.size=6
  ·have hsb:(o.size==6)=true:=by rw [hs];rfl
   rw [if_pos hs] at E
   clear hs
   go_enter Tryz.func237,Tryz.ntmps237
   go_wp2
   go_ret2
   exact ⟨by rw [E.out];rfl,HG.out⟩
  ·have hsb:(o.size==6)=false:=beq_eq_false_iff_ne.2 hs
   rw [if_neg hs] at E
   clear hs
   by_cases hc:o.count≤k
   ·rw [if_pos hc] at E
    go_enter Tryz.func237,Tryz.ntmps237
    go_wp2
    go_ret2
    exact ⟨by rw [E.out];rfl,HG.out⟩
   ·rw [if_neg hc] at E
    by_cases h5:o.size=5
    ·have h5b:(o.size==5)=true:=by rw [h5];rfl
     rw [if_pos h5] at E
     clear h5 hsb
     go_enter Tryz.func237,Tryz.ntmps237
     go_wp2
     obtain ⟨d0,d1,d2,d3,d4,d5,d6,d7,d8,df⟩:=zkA H1.out
     obtain ⟨n0,n1,n2,n3,n4,n5,n6,nf⟩:=zC HN.out
     refine zE [0,1,2,3,4,5,6,7,8,9,10,11,12,13,14] [10,13,14] [3,5,7] [] rfl (by kernel_rfl) ?_
     iterate 3
      refine ord_p ?_
     refine oc1 d0 ?_
     refine ord_p ?_
     refine oc1 n1 ?_
     refine ord_p ?_
     refine oc1 n2 ?_
     iterate 2
      refine ord_p ?_
     refine zvB rfl rfl rfl rfl (f:=fw) (args:=#[r,.int .i64 o.seg,.int .i64 (o.at_+k)]) (by go_simp) ?_
     refine (H4.out _ (HG.out.grow (Keep.refl NoB _).drew) o.seg (o.at_+k)).mono ?_
     rintro e w1 ⟨rfl,hg1⟩
     refine ⟨_,rfl,fun _=>hg1,?_⟩
     simp only [Act.put,pB,pC,pD]
     iterate 2
      refine ord_p ?_
     iterate 2
      refine ord_s ?_
     refine zD ?_
     have HF:=LH ((HG.out.grow (Keep.refl NoB _).drew).grow hg1)
     clear hg1 H4 HG HN H1 d0 d1 d2 d3 d4 d5 d6 d7 d8 df n0 n1 n2 n3 n4 n5 n6 nf
     go_wp2
     go_ret2
     exact ⟨by rw [E.out];rfl,HF.out⟩
    ·have h5b:(o.size==5)=false:=beq_eq_false_iff_ne.2 h5
     rw [if_neg h5] at E
     clear h5
     obtain ⟨qq,hqq⟩:∃ qq,k/8=qq:=⟨_,rfl⟩
     obtain ⟨rr,hrr⟩:∃ rr,k%8=rr:=⟨_,rfl⟩
     have hr0:0≤rr:=by omega
     have hr7:rr≤7:=by omega
     have hqt:k.tdiv 8=qq:=by rw [Int.tdiv_eq_ediv_of_nonneg hk0];exact hqq
     have hrt:k.tmod 8=rr:=by rw [Int.tmod_eq_emod_of_nonneg hk0];exact hrr
     have hq0:0≤qq:=by omega
     have hq1:qq≤1000000:=by omega
     have hwq:IntKind.i64.wrap qq=qq:=IntWalk.i64_in _ (by omega)
     have hwr:IntKind.i64.wrap rr=rr:=IntWalk.i64_in _ (by omega)
     have hw3:IntKind.i64.wrap (o.at_+qq)=o.at_+qq:=IntWalk.i64_in _ (by omega)
     have hw4:IntKind.i64.wrap (rr*8)=rr*8:=IntWalk.i64_in _ (by omega)
     have hv:=HV.out o.seg (o.at_+qq)
     rw [hqq] at E
     have EB:Hid (byteI (wd o.seg (o.at_+qq)).1 k=(wd o.seg (o.at_+qq)).1/2 ^ (rr*8).toNat%256):=LH (by unfold byteI;rw [hrr,Int.mul_comm])
     have hand:=zcH (wd o.seg (o.at_+qq)).1 (rr*8).toNat 8 hv.1 hv.2 (by omega)
     rw [show (2:Int) ^ 8=256 by decide,← EB.out,show (256:Int)-1=255 by decide] at hand
     clear EB hv
     obtain ⟨xw,hxw⟩:∃ xw,wd o.seg (o.at_+qq)=xw:=⟨_,rfl⟩
     rw [hxw] at E hand
     have HAND:=LH hand
     have HXW:=LH hxw
     clear hand hxw
     go_enter Tryz.func237,Tryz.ntmps237
     go_wp2
     obtain ⟨d0,d1,d2,d3,d4,d5,d6,d7,d8,df⟩:=zkA H1.out
     obtain ⟨n0,n1,n2,n3,n4,n5,n6,nf⟩:=zC HN.out
     refine zE [0,1,2,3,4,5,6,7,8,9,10,11,12,13,14,15,16] [11,15,16] [3,5,7] [] rfl (by kernel_rfl) ?_
     iterate 3
      refine ord_p ?_
     refine oc1 d0 ?_
     refine ord_p ?_
     refine oc1 n1 ?_
     refine ord_p ?_
     refine oc1 n2 ?_
     iterate 3
      refine ord_p ?_
     refine zvB rfl rfl rfl rfl (f:=fw) (args:=#[r,.int .i64 o.seg,.int .i64 (o.at_+qq)]) (by go_simp) ?_
     refine (H4.out _ (HG.out.grow (Keep.refl NoB _).drew) o.seg (o.at_+qq)).mono ?_
     rw [HXW.out]
     rintro e w1 ⟨rfl,hg1⟩
     refine ⟨_,rfl,fun _=>hg1,?_⟩
     simp only [Act.put,pB,pC,pD]
     iterate 3
      refine ord_p ?_
     iterate 2
      refine ord_s ?_
     refine zD ?_
     have HF:=LH ((HG.out.grow (Keep.refl NoB _).drew).grow hg1)
     clear hg1 H4 HG HN H1 d0 d1 d2 d3 d4 d5 d6 d7 d8 df n0 n1 n2 n3 n4 n5 n6 nf
     go_wp2
     go_ret2
     exact ⟨by rw [E.out,← HAND.out];rfl,HF.out⟩
def RC.idle (win back retry quota:Int) (st:Nat):RC:=⟨none,win,back,retry,quota,st,0,0,0,0,0,false,false,false,false,⟨none,0,0⟩,⟨none,0,0⟩,⟨none,0,0⟩,⟨none,0,0⟩,false,false⟩
theorem zrJ (w:World) (m:Int) :
    Calls Tryz.prog 130 #[qJ,.int .i64 m] w fun e w'=>e=.returned (.bool false)∧w=w':=by
 go_enter Tryz.func130,Tryz.ntmps130
 go_wp2
 go_ret
 exact ⟨rfl,rfl⟩
theorem zFL (w:World) :
    Calls Tryz.prog 59 #[.agg #[qJ,qJ,qJ,qJ]] w fun e w'=>e=.returned (.bool false)∧Grow w w':=by
 have HG:=LH ((Keep.refl NoB w).alloc (.cells #[qJ,qJ,qJ,qJ] 26))
 go_enter Tryz.func59,Tryz.ntmps59
 go_wp2_with fail
 refine (zrJ _ 64).mono ?_
 rintro e w1 ⟨rfl,rfl⟩
 go_wp2
 go_ret
 exact ⟨rfl,HG.out⟩
theorem zGL (st:Nat) (w:World) :
    Calls Tryz.prog 35 #[.agg #[qJ,qJ,qJ,qJ],.pointer (some ⟨st,0,none⟩)] w fun e w'=>e=.returned (.tuple #[.pointer none,.int .u16 1])∧Grow w w':=by
 have HG:=LH ((Keep.refl NoB w).alloc (.cells #[qJ,qJ,qJ,qJ] 26))
 obtain ⟨z0,z1,z2,z3,zf⟩:=zLA (heap_alloc_new w (.cells #[qJ,qJ,qJ,qJ] 26))
 go_enter Tryz.func35,Tryz.ntmps35
 go_wp2_with fail
 refine (zFL _).mono ?_
 rintro e w1 ⟨rfl,hg⟩
 replace HG:=LH (HG.out.grow hg)
 clear hg
 go_wp2
 go_ret2
 exact ⟨rfl,HG.out⟩
theorem zJE {win back retry quota:Int} (hc:OkC win back retry quota) {s:Nat} {k:KS} {G:Nat→Prop} {w:World} (h:KAt s k G w) (hn:k.nt=⟨none,0,0⟩) :
    Calls Tryz.prog 35 #[.agg #[.int .i64 win,.int .i64 back,.int .i64 retry,.int .i64 quota],.pointer (some ⟨s,0,none⟩)] w fun e w'=>∃ g,e=.returned (.tuple #[.pointer (some ⟨g,0,none⟩),.int .u16 0])∧RCell g (RC.idle win back retry quota s) w'∧Grow w w'∧w.heap.size≤g:=by
 have hg0:=(Keep.refl NoB w).alloc (.cells #[.int .i64 win,.int .i64 back,.int .i64 retry,.int .i64 quota] 26)
 have HZ:=LH (heap_alloc_new w (.cells #[.int .i64 win,.int .i64 back,.int .i64 retry,.int .i64 quota] 26))
 have HC:=LH (zuF win back retry quota hc (w.alloc (.cells #[.int .i64 win,.int .i64 back,.int .i64 retry,.int .i64 quota] 26)))
 have HG:=LH hg0
 have H:=LH (h.grow hg0)
 have HNT:=LH hn
 clear hc hg0 h hn
 go_enter Tryz.func35,Tryz.ntmps35
 obtain ⟨z0,z1,z2,z3,zf⟩:=zLA HZ.out
 go_wp2_with fail
 refine HC.out.mono ?_
 rintro e w1 ⟨rfl,hg⟩
 replace H:=LH (H.out.grow hg)
 replace HG:=LH (HG.out.grow hg)
 replace HZ:=LH (Grow.heap hg HZ.out)
 clear hg HC z0 z1 z2 z3 zf
 obtain ⟨z0,z1,z2,z3,zf⟩:=zLA HZ.out
 go_wp2_with fail
 have hR:=heap_alloc_new w1 (.cells (RC.idle win back retry quota s).cs 173)
 have hgr:=(Keep.refl NoB w1).alloc (.cells (RC.idle win back retry quota s).cs 173)
 refine (zZI (H.out.grow hgr) HNT.out).mono ?_
 rintro e w2 ⟨rfl,hg⟩
 have HN:=LH (show RCell w1.heap.size (RC.idle win back retry quota s) w2 from Grow.heap hg hR)
 replace HG:=LH ((HG.out.grow hgr).grow hg)
 have HSZ:Hid (w.heap.size≤w1.heap.size):=LH (by have:=HZ.out;have:=(gE this).1;omega)
 clear hR hgr hg z0 z1 z2 z3 zf
 have HG3:=LH ((Keep.refl NoB w2).alloc (.cells qG 104))
 go_wp2
 go_ret2
 exact ⟨_,rfl,HN.out.grow HG3.out,HG.out.grow HG3.out,HSZ.out⟩
theorem zaI {g:Nat} {d:RC} {w:World} (h:RCell g d w) (hp:d.phase=0) (hcl:d.closed=false):Calls Tryz.prog 51 #[.pointer (some ⟨g,0,none⟩),qJ] w fun e w'=>e=.returned (.slice none 0 0)∧w=w':=by
 obtain ⟨c0,c1,c2,c3,c4,c5,c6,c7,c8,c9,c10,c11,c12,c13,c14,c15,c16,c17,c18,c19,c20,cf⟩:=zH h
 rw [hp] at c6
 rw [hcl] at c20
 clear h hp hcl
 go_enter Tryz.func51,Tryz.ntmps51
 go_wp2
 go_ret
 exact ⟨rfl,rfl⟩
theorem zWC {g:Nat} {d:RC} {w:World} (h:RCell g d w) (hp:d.phase≠3) (hq:d.part=none) (A:Option Addr) (n c:Nat) (at_:Int):Calls Tryz.prog 41 #[.pointer (some ⟨g,0,none⟩),.agg #[.slice A n c,.int .i64 at_]] w fun e w'=>e=.returned (.tuple #[.agg qC,.int .u16 30])∧Grow w w':=by
 have hg:=(((Keep.refl NoB w).alloc (.cells #[.slice A n c,.int .i64 at_] 83))).alloc (.cells qC 86)
 have hc:=heap_alloc_new (w.alloc (.cells #[.slice A n c,.int .i64 at_] 83)) (.cells qC 86)
 have hsz:(w.alloc (.cells #[.slice A n c,.int .i64 at_] 83)).heap.size=w.heap.size+1:=by simp
 rw [hsz] at hc
 obtain ⟨c0,c1,c2,c3,c4,c5,c6,c7,c8,c9,c10,c11,c12,c13,c14,c15,c16,c17,c18,c19,c20,cf⟩:=zH (h.grow hg)
 rw [hq] at c0
 have HG:=LH hg
 have hpb:(d.phase==3)=false:=by simp [hp]
 clear h hp hq hg
 go_enter Tryz.func41,Tryz.ntmps41
 go_wp2
 (try simp only [Exit.inBlock,Exit.then])
 obtain ⟨z0,z1,z2,z3,z4,zf⟩:=zA hc
 refine bodyPost_ret (v:=.tuple #[.agg qC,.int .u16 30]) ?_ rfl ⟨rfl,HG.out⟩
 rw [results_cell_tmp rfl];go_simp
theorem zxA (w:World):Calls Tryz.prog 34 #[] w fun e w'=>e=.returned (.bool true)∧Grow w w':=by
 have hconf:OkC 1 1 1 0:=by constructor <;> omega
 go_enter Tryz.func34,Tryz.ntmps34
 go_wp2_with fail
 refine (zUC w).mono ?_
 rintro e w1 ⟨s,k,rfl,hg,hK,_,_,hnt,_⟩
 have HG:=LH hg
 have HK:=LH hK
 clear hg hK
 go_wp2_with fail
 refine (zJE hconf HK.out hnt).mono ?_
 rintro e w2 ⟨g,rfl,hR,hg,_⟩
 have HR:=LH hR
 replace HG:=LH (HG.out.grow hg)
 clear hR hg hnt
 go_wp2_with fail
 refine (zWC HR.out (by simp [RC.idle]) rfl none 0 0 0).mono ?_
 rintro e w3 ⟨rfl,hg⟩
 have hg3:=hg.alloc (.cells qC 86)
 replace HR:=LH (HR.out.grow hg3)
 replace HG:=LH (HG.out.grow hg3)
 clear hg hg3
 go_wp2_with fail
 refine (zUC _).mono ?_
 rintro e w4 ⟨s2,k2,rfl,hg,_⟩
 replace HR:=LH (HR.out.grow hg)
 replace HG:=LH (HG.out.grow hg)
 clear hg
 go_wp2_with fail
 refine (zGL s2 _).mono ?_
 rintro e w5 ⟨rfl,hg⟩
 replace HR:=LH (HR.out.grow hg)
 replace HG:=LH (HG.out.grow hg)
 clear hg
 go_wp2_with fail
 refine (zaI HR.out rfl rfl).mono ?_
 rintro e w6 ⟨rfl,rfl⟩
 go_wp2
 go_ret
 exact ⟨rfl,HG.out⟩
theorem OkP.few {d:Par} (h:OkP d):chunksN d.sz≤512∧d.known.length≤100000:=by
 have h1:=zM h.fit
 have h2:=h.klen
 have h3:chunksN d.sz≤512:=by unfold chunksN;omega
 exact ⟨h3,by omega⟩
theorem zGC {g:Nat} {d:RC} {w:World} (h:RCell g d w) (hq:d.part=none):Calls Tryz.prog 43 #[.pointer (some ⟨g,0,none⟩)] w fun e w'=>e=.returned (.agg #[.int .i64 d.phase,.int .u16 d.err,qJ,qJ])∧Grow w w':=by
 have H:=LH (h.grow ((Keep.refl NoB w).alloc (.cells qH 48)))
 have HG:=LH ((Keep.refl NoB w).alloc (.cells qH 48))
 have HC:=LH (heap_alloc_new w (.cells qH 48))
 have HQ:=LH hq
 clear h hq
 go_enter Tryz.func43,Tryz.ntmps43
 go_wp2
 generalize w.alloc (.cells qH 48)=w1 at H HG HC ⊢
 obtain ⟨c0,c1,c2,c3,c4,c5,c6,c7,c8,c9,c10,c11,c12,c13,c14,c15,c16,c17,c18,c19,c20,cf⟩:=zH H.out
 refine zE [0,1,2,3,4,5,6,7,8,9,10] [9,10] [3,7] [10] rfl (by kernel_rfl) ?_
 iterate 3
  refine ord_p ?_
 refine oc1 c6 ?_
 iterate 3
  refine ord_p ?_
 refine oc1 c7 ?_
 refine ord_p ?_
 refine zh rfl rfl rfl rfl ?_ ?_ ?_ ?_ ?_ ?_
 rotate_left 3
 ·go_simp;first | with_reducible rfl | (constructor <;> with_reducible rfl)
 ·simp only [Act.put,pB,pC,pD];rfl
 refine zJ rfl rfl rfl rfl ?_ ?_ (fun h=>absurd (by simp) h) ?_
 rotate_left
 ·go_simp;with_reducible rfl
 refine zD ?_
 have hga:=(Keep.refl NoB w1).drew.alloc (.cells qH 48)
 have hsz1:w.heap.size<w1.heap.size:=(gE HC.out).1
 have hga2:=((Keep.refl NoB w1).alloc (.cells #[.int .i64 d.phase,.int .u16 d.err,qJ,qJ] 48)).drew
 have HS:=LH (And.intro (show (w1.alloc (.cells #[.int .i64 d.phase,.int .u16 d.err,qJ,qJ] 48)).drew.heap[w1.heap.size]? = _ from heap_alloc_new w1 (.cells #[.int .i64 d.phase,.int .u16 d.err,qJ,qJ] 48)) hga2)
 obtain ⟨W2,hW2⟩:∃ W2,(w1.alloc (.cells #[.int .i64 d.phase,.int .u16 d.err,qJ,qJ] 48)).drew=W2:=⟨_,rfl⟩
 rw [hW2] at HS ⊢
 replace H:=LH (H.out.grow HS.out.2)
 replace HG:=LH (HG.out.grow HS.out.2)
 replace HC:=LH (Grow.heap HS.out.2 HC.out)
 obtain ⟨N,hN⟩:∃ N,w1.heap.size=N:=⟨_,rfl⟩
 replace HS:=LH HS.out.1
 rw [hN] at HS hsz1 ⊢
 clear hga hga2 hW2 hN c0 c1 c2 c3 c4 c5 c6 c7 c8 c9 c10 c11 c12 c13 c14 c15 c16 c17 c18 c19 c20 cf
 obtain ⟨c0,c1,c2,c3,c4,c5,c6,c7,c8,c9,c10,c11,c12,c13,c14,c15,c16,c17,c18,c19,c20,cf⟩:=zH H.out
 rw [HQ.out] at c0
 obtain ⟨z0,z1,z2,z3,zf⟩:=zLA HS.out
 obtain ⟨y0,y1,y2,y3,yf⟩:=zLA HC.out
 have HR:=LH (zaE (.int .i64 d.phase) (.int .u16 d.err) (.int .i64 0) (.int .i64 0) HG.out (Nat.le_refl _) HC.out)
 go_wp2
 obtain ⟨r0,r1,r2,r3,rf⟩:=zLA HR.out.1
 refine bodyPost_ret (v:=.agg #[.int .i64 d.phase,.int .u16 d.err,qJ,qJ]) ?_ rfl ⟨rfl,HR.out.2⟩
 rw [zO rfl];go_simp
theorem zfC {g b:Nat} {d:RC} {p:PP} {e:Par} {G:Nat→Prop} {w:World} (h:RCell g d w) (hq:d.part=some ⟨b,0,none⟩) (hP:PAt b p e G w):Calls Tryz.prog 43 #[.pointer (some ⟨g,0,none⟩)] w fun ee w'=>ee=.returned (.agg #[.int .i64 d.phase,.int .u16 d.err,.int .i64 (popB e.known:Nat),.int .i64 (chunksN e.sz:Nat)])∧Grow w w':=by
 have H:=LH (h.grow ((Keep.refl NoB w).alloc (.cells qH 48)))
 have HG:=LH ((Keep.refl NoB w).alloc (.cells qH 48))
 have HC:=LH (heap_alloc_new w (.cells qH 48))
 have HQ:=LH hq
 have HP:=LH (hP.grow HG.out)
 clear h hq hP
 go_enter Tryz.func43,Tryz.ntmps43
 go_wp2
 generalize w.alloc (.cells qH 48)=w1 at H HG HC HP ⊢
 obtain ⟨c0,c1,c2,c3,c4,c5,c6,c7,c8,c9,c10,c11,c12,c13,c14,c15,c16,c17,c18,c19,c20,cf⟩:=zH H.out
 refine zE [0,1,2,3,4,5,6,7,8,9,10] [9,10] [3,7] [10] rfl (by kernel_rfl) ?_
 iterate 3
  refine ord_p ?_
 refine oc1 c6 ?_
 iterate 3
  refine ord_p ?_
 refine oc1 c7 ?_
 refine ord_p ?_
 refine zh rfl rfl rfl rfl ?_ ?_ ?_ ?_ ?_ ?_
 rotate_left 3
 ·go_simp;first | with_reducible rfl | (constructor <;> with_reducible rfl)
 ·simp only [Act.put,pB,pC,pD];rfl
 refine zJ rfl rfl rfl rfl ?_ ?_ (fun h=>absurd (by simp) h) ?_
 rotate_left
 ·go_simp;with_reducible rfl
 refine zD ?_
 have hga:=(Keep.refl NoB w1).drew.alloc (.cells qH 48)
 have hsz1:w.heap.size<w1.heap.size:=(gE HC.out).1
 have hga2:=((Keep.refl NoB w1).alloc (.cells #[.int .i64 d.phase,.int .u16 d.err,qJ,qJ] 48)).drew
 have HS:=LH (And.intro (show (w1.alloc (.cells #[.int .i64 d.phase,.int .u16 d.err,qJ,qJ] 48)).drew.heap[w1.heap.size]? = _ from heap_alloc_new w1 (.cells #[.int .i64 d.phase,.int .u16 d.err,qJ,qJ] 48)) hga2)
 obtain ⟨W2,hW2⟩:∃ W2,(w1.alloc (.cells #[.int .i64 d.phase,.int .u16 d.err,qJ,qJ] 48)).drew=W2:=⟨_,rfl⟩
 rw [hW2] at HS ⊢
 replace H:=LH (H.out.grow HS.out.2)
 replace HP:=LH (HP.out.grow HS.out.2)
 replace HG:=LH (HG.out.grow HS.out.2)
 replace HC:=LH (Grow.heap HS.out.2 HC.out)
 obtain ⟨N,hN⟩:∃ N,w1.heap.size=N:=⟨_,rfl⟩
 replace HS:=LH HS.out.1
 rw [hN] at HS hsz1 ⊢
 clear hga hga2 hW2 hN c0 c1 c2 c3 c4 c5 c6 c7 c8 c9 c10 c11 c12 c13 c14 c15 c16 c17 c18 c19 c20 cf
 obtain ⟨c0,c1,c2,c3,c4,c5,c6,c7,c8,c9,c10,c11,c12,c13,c14,c15,c16,c17,c18,c19,c20,cf⟩:=zH H.out
 rw [HQ.out] at c0
 go_wp2
 refine zE [0,1,2,3,6,7,8,9,4,5,12,10,11,13,14,15] [4,5,10,11,13,15] [3,9] [13,15] rfl (by kernel_rfl) ?_
 iterate 2
  iterate 3
   refine ord_p ?_
  refine oc1 c0 ?_
 refine zG rfl rfl rfl rfl rfl Tryz.func117 rfl rfl [.pointer (some ⟨b,0,none⟩)] rfl ?_
 refine (zwA (HP.out.grow (Keep.refl NoB W2).drew)).mono ?_
 rintro ee w3 ⟨A3,c3',rfl,hg3,ho3⟩
 refine ⟨_,rfl,fun _=>hg3,?_⟩
 simp only [Act.put,pB,pC,pD]
 refine zG rfl rfl rfl rfl rfl Tryz.func116 rfl rfl [.slice A3 e.known.length c3'] rfl ?_
 refine (zoB A3 c3' e.known HP.out.ok.known HP.out.ok.few.2 w3 (SliceR.of_own ho3)).mono ?_
 rintro ee w4 ⟨rfl,rfl⟩
 refine ⟨_,rfl,fun _=>Keep.refl _ _,?_⟩
 simp only [Act.put,pB,pC,pD]
 refine ord_p ?_
 refine zG rfl rfl rfl rfl rfl Tryz.func118 rfl rfl [.pointer (some ⟨b,0,none⟩)] rfl ?_
 refine (zpA ((HP.out.grow (Keep.refl NoB W2).drew).grow hg3)).mono ?_
 rintro ee w4 ⟨A4,c4',rfl,hg4,ho4⟩
 refine ⟨_,rfl,fun _=>hg4,?_⟩
 simp only [Act.put,pB,pC,pD]
 refine zG rfl rfl rfl rfl rfl Tryz.func64 rfl rfl [.agg #[.int .u64 e.session,.slice A4 e.sz.length c4',.int .u32 (e.sum:Nat)]] rfl ?_
 refine (zg e.session e.sum A4 c4' e.sz w4 (SliceR.of_own ho4) HP.out.ok.fit).mono ?_
 rintro ee w5 ⟨rfl,hg5⟩
 refine ⟨_,rfl,fun _=>hg5,?_⟩
 simp only [Act.put,pB,pC,pD]
 have hgd:=(((Keep.refl NoB W2).drew.grow hg3).grow hg4).grow hg5
 replace HS:=LH (Grow.heap hgd HS.out)
 replace HC:=LH (Grow.heap hgd HC.out)
 replace HG:=LH (HG.out.grow hgd)
 clear hg3 hg4 hg5 ho3 ho4 hgd c0 c1 c2 c3 c4 c5 c6 c7 c8 c9 c10 c11 c12 c13 c14 c15 c16 c17 c18 c19 c20 cf
 obtain ⟨z0,z1,z2,z3,zf⟩:=zLA HS.out
 refine zJ rfl rfl rfl rfl ?_ ?_ (fun h=>absurd (by simp) h) ?_
 rotate_left
 ·go_simp;with_reducible rfl
 refine ord_p ?_
 refine zJ rfl rfl rfl rfl ?_ ?_ (fun h=>absurd (by simp) h) ?_
 rotate_left
 ·go_simp;with_reducible rfl
 refine zD ?_
 have hne:N≠w.heap.size:=by omega
 have e1:=zdA HS.out 2 (.int .i64 (popB e.known:Nat))
 have e2:=zdA e1 3 (.int .i64 (chunksN e.sz:Nat))
 have hk:=((Keep.refl (fun k=>k=N) w5).setCell (p:=⟨N,2,none⟩) (.inl rfl) (.int .i64 (popB e.known:Nat))).setCell (p:=⟨N,3,none⟩) (.inl rfl) (.int .i64 (chunksN e.sz:Nat))
 have hC:=(hk.block _ (gE HC.out).1 (fun e=>hne e.symm)).trans HC.out
 have hG2:=(HG.out.mono (T:=fun k=>k=N) (fun _ h=>h.elim)).trans hk (fun _ h=>.inl h)
 have hG3:Grow w _:=hG2.new (fun i e=>by rw [e];omega)
 have HR:=LH (zaE (.int .i64 d.phase) (.int .u16 d.err) (.int .i64 (popB e.known:Nat)) (.int .i64 (chunksN e.sz:Nat)) hG3 (Nat.le_refl _) hC)
 generalize ((w5.setCell ⟨N,2,none⟩ (.int .i64 (popB e.known:Nat))).setCell ⟨N,3,none⟩ (.int .i64 (chunksN e.sz:Nat)))=w6 at HR e2 hC ⊢
 clear z0 z1 z2 z3 zf hG2 hG3 hk e1
 obtain ⟨z0,z1,z2,z3,zf⟩:=zLA (a0:=.int .i64 d.phase) (a1:=.int .u16 d.err) (a2:=.int .i64 (popB e.known:Nat)) (a3:=.int .i64 (chunksN e.sz:Nat)) e2
 obtain ⟨y0,y1,y2,y3,yf⟩:=zLA hC
 clear e2 hC
 go_wp2
 obtain ⟨r0,r1,r2,r3,rf⟩:=zLA HR.out.1
 refine bodyPost_ret (v:=.agg #[.int .i64 d.phase,.int .u16 d.err,.int .i64 (popB e.known:Nat),.int .i64 (chunksN e.sz:Nat)]) ?_ rfl ⟨rfl,HR.out.2⟩
 rw [zO rfl];go_simp
theorem zHM (m:Nat):(Builtin.zeroCells (Value.int .i64 0).cells m).toList=ints (List.replicate m 0):=by
 apply List.ext_getElem (by simp [Builtin.zeroCells,ints,Value.cells])
 intro j h1 h2
 simp [Builtin.zeroCells,ints,Value.cells,Nat.mod_one]
theorem zHL (w:World) (base:Nat) (ty:TypeId) (v:Value) (n:Nat) (xs:List Value) (hown:w.ownsRow base 3 1 v n xs) (m:Nat) (hnm:n+m≤10000000) (hbase:base≤w.heap.size) :
    ∃ v' w',(Builtin.append_ #[37,3] ty #[v,.int .i64 m]).run Tryz.prog w=.ok v' w'∧w'.ownsRow base 3 1 v' (n+m) (xs++ints (List.replicate m 0))∧w.grownBy w' v.ownBlock∧(v'.ownBlock=v.ownBlock∨v'.ownBlock=some w.heap.size):=by
 obtain ⟨i,hi,hz,hsz,hby⟩:=info_parts zUB
 have hw:IntKind.i64.wrap (m:Int)=m:=IntWalk.i64_in _ (by omega)
 have hw0:IntKind.i64.wrap 0=0:=IntWalk.i64_in _ (by omega)
 have hneg:¬ ((m:Int)<0):=by omega
 have hbig:¬ (281474976710656<(m:Int)*(i.bytes:Int)):=by rw [hby];omega
 have ht:=ziA
 have hti:=zWJ
 have hl:(ints (List.replicate m 0)).length=m:=by simp [ints]
 have hzz:=zHM m
 have hna:Builtin.zeroCells (Value.int .i64 0).cells m=(ints (List.replicate m 0)).toArray:=by rw [← hzz]
 have hlen:(xs++ints (List.replicate m 0)).length=(n+m)*1:=by rw [List.length_append,hown.1,hl];omega
 have grown : ∀ (old : Nat), old < n + m → ∀ (row : Option Nat),
     (w.drew.alloc (.cells ((xs++ints (List.replicate m 0)).toArray++Builtin.zeroCells (Value.int .i64 0).cells (grownCap w (n+m) old 3-(n+m))) 3)).ownsRow base 3 1
      (.slice (some ⟨w.heap.size,0,none⟩) (n+m) (grownCap w (n+m) old 3)) (n+m) (xs++ints (List.replicate m 0)) ∧
     w.grownBy (w.drew.alloc (.cells ((xs++ints (List.replicate m 0)).toArray++Builtin.zeroCells (Value.int .i64 0).cells (grownCap w (n+m) old 3-(n+m))) 3)) row:=by
  intro old ho row
  have hge:=grownCap_ge w (n+m) old 3
  have hcm:grownCap w (n+m) old 3≤maxLen:=grownCap_le_maxLen w (n+m) old 3 (by simp [maxLen];omega)
  refine ⟨⟨hlen,.inr ⟨w.heap.size,_,_,rfl,hbase,heap_alloc_new w.drew _,hge,hcm,?_,?_⟩⟩,⟨rfl,rfl,rfl,by simp,fun k hk _=>Below.heap_alloc w.drew _ k hk⟩⟩
  ·rw [Array.size_append,List.size_toArray,size_zeroCells,hlen]
   simp only [Value.cells,List.size_toArray,List.length_cons,List.length_nil]
   omega
  ·rw [Array.toList_append,← hlen]
   exact List.take_left
 have runs:∀ (A:Option Addr) (cap:Nat),cap<n+m→(Builtin.firstCells 1 n (.slice A n cap)).run Tryz.prog w.drew=.ok xs.toArray w.drew→(Builtin.append_ #[37,3] ty #[.slice A n cap,.int .i64 m]).run Tryz.prog w =
     .ok (.slice (some ⟨w.heap.size,0,none⟩) (n+m) (grownCap w (n+m) cap 3)) (w.drew.alloc (.cells ((xs++ints (List.replicate m 0)).toArray++Builtin.zeroCells (Value.int .i64 0).cells (grownCap w (n+m) cap 3-(n+m))) 3)):=by
  intro A cap hcap hfo
  have hn:¬ (n+m≤cap):=by omega
  have h63':¬ (9223372036854775807<((n:Int)+(m:Int))):=by omega
  have hfit:=growslice_fits (bytes:=i.bytes) hcap (by rw [hby];omega)
  have h48':¬ (281474976710656<Builtin.nextslicecap (n+m) cap*i.bytes):=by omega
  by_cases hm:m=0
  ·subst hm
   have hnl:ints (List.replicate 0 0)=[]:=rfl
   rw [hnl]
   simp only [Nat.add_zero] at hn h63' h48' ⊢
   have h63'':¬ (9223372036854775807<(n:Int)):=by omega
   simp [Builtin.append_,run_underlying ht,run_underlying hti,sizeOf,typeInfo,zeroValue,hi,hz,hsz,asInt,asIntOf,hw0,hn,h63'',h48',Question.forced,hfo,newRow,grownCap]
  ·have hmz:¬ (m=0):=hm
   simp [Builtin.append_,run_underlying ht,run_underlying hti,sizeOf,typeInfo,zeroValue,hi,hz,hsz,asInt,asIntOf,hw,hneg,hbig,hn,h63',h48',Question.forced,hfo,newRow,grownCap,hmz,hna]
   generalize ints (List.replicate m 0)=Z
   have e:∀ Y:Array Value,xs.toArray++(Z.toArray++Y)=(xs++Z).toArray++Y:=fun Y=>by apply Array.ext';simp
   rw [e]
 rcases hown.2 with ⟨rfl,rfl⟩ | ⟨g,cap,cur,rfl,hbg,hg,hnc,hcm,hcs,htake⟩
 ·have hx:xs=[]:=List.eq_nil_of_length_eq_zero (by simpa using hown.1)
  subst hx
  by_cases hm:m=0
  ·subst hm
   refine ⟨.slice none 0 0,w,?_,World.ownsRow_nil w base 3 1,⟨rfl,rfl,rfl,Nat.le_refl _,fun _ _ _=>rfl⟩,Or.inl rfl⟩
   simp [Builtin.append_,run_underlying ht,run_underlying hti,sizeOf,typeInfo,hi,asInt,asIntOf,hw0]
  ·have hgr:=grown 0 (by omega) (Value.ownBlock (.slice none 0 0))
   exact ⟨_,_,runs none 0 (by omega) (by simp [Builtin.firstCells]),hgr.1,hgr.2,Or.inr rfl⟩
 ·by_cases hroom:n+m≤cap
  ·have hfit:n+(ints (List.replicate m 0)).length≤cur.size:=by rw [hl,hcs];omega
   have hst:=run_storeCells_at Tryz.prog g n 3 (ints (List.replicate m 0)) 0 cur w hg (by simpa using hfit) (zkD _)
   simp only [Nat.add_zero] at hst
   refine ⟨_,_,?_,⟨hlen,.inr ⟨g,cap,_,rfl,hbg,setRow_heap w g cur (cur.toList.take n++ints (List.replicate m 0)++cur.toList.drop (n+(ints (List.replicate m 0)).length)).toArray 3 _ hg,hroom,hcm,?_,?_⟩⟩,⟨rfl,rfl,rfl,by simp,fun k _ hk=>setRow_other w g k _ (fun e=>hk (by simp [Value.ownBlock,e]))⟩,.inl rfl⟩
   ·by_cases hm:m=0
    ·subst hm
     have hnl:ints (List.replicate 0 0)=[]:=rfl
     rw [hnl] at hst ⊢
     simp at hst
     simp [Builtin.append_,run_underlying ht,run_underlying hti,sizeOf,typeInfo,hi,hsz,asInt,asIntOf,hw0,hnc,Addr.add_lit,hst]
    ·simp [Builtin.append_,run_underlying ht,run_underlying hti,sizeOf,typeInfo,zeroValue,hi,hz,hsz,asInt,asIntOf,hw,hneg,hbig,hroom,hm,hna,Addr.add_lit,hst]
   ·simp only [List.size_toArray,List.length_append,List.length_take,List.length_drop,Array.length_toList]
    omega
   ·have h6:cur.toList.take n=xs:=by simpa using htake
    rw [h6,← hlen]
    exact List.take_left
  ·have holds:∀ j u,xs[j]? = some u→w.cell? ((⟨g,0,none⟩:Addr).add j)=some u:=hown.cells (g:=g) rfl
   have hgr:=grown cap (by omega) (Value.ownBlock (.slice (some ⟨g,0,none⟩) n cap))
   exact ⟨_,_,runs (some ⟨g,0,none⟩) cap (by omega) (run_firstCells_some (P:=Tryz.prog) w.drew 1 n _ n cap xs (by simpa using hown.1) (by simpa using holds)),hgr.1,hgr.2,Or.inr rfl⟩
theorem zIH (n:Nat) (h0:0<n) (hn:n≤100000) (w:World):Calls Tryz.prog 258 #[qI,.int .i64 n] w fun e w'=>∃ b c,e=.returned (.slice (some ⟨b,0,none⟩) 0 c)∧w'.ownsRow w.heap.size 3 1 (.slice (some ⟨b,0,none⟩) 0 c) 0 []∧Grow w w':=by
 obtain ⟨v',w',hr,ho,hg,hat⟩:=zHL w w.heap.size 37 (.slice none 0 0) 0 [] (World.ownsRow_nil _ _ _ _) n (by omega) (Nat.le_refl _)
 have hgr:Grow w w':=(Keep.refl NoB w).grown hg (fun k hk=>by simp [Value.ownBlock] at hk)
 rw [Nat.zero_add] at ho
 obtain ⟨A9,c9,rfl,hc9,h9,h8⟩:=zK ho
 obtain ⟨b,rfl⟩:∃ b,A9=some ⟨b,0,none⟩:=by
  rcases A9 with _ | ad
  ·exact absurd (h8 rfl).1 (by omega)
  ·exact ⟨ad.block,h9 ad.block rfl⟩
 have ho0:=zfF ho 0 (by omega)
 rw [Nat.zero_mul,List.take_zero] at ho0
 have HO:=LH ho0
 have HG:=LH hgr
 have HR:=LH hr
 have hpos:(0:Int)<n:=by omega
 clear hr ho hg hat hgr h9 h8 ho0
 go_enter Tryz.func258,Tryz.ntmps258
 have hw:IntKind.i64.wrap (n:Int)=n:=IntWalk.i64_in _ (by omega)
 go_wp2_with (at_builtin;refine zBE rfl _ _ _ _ rfl _ _ rfl rfl _ w' HR.out ?_)
 go_ret
 exact ⟨b,c9,rfl,HO.out,HG.out⟩
end Go.Proofs.YtfkcpaahdlkcdaaGreat

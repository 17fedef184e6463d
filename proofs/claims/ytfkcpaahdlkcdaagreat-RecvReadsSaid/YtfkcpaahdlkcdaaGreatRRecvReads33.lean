import Derived.Test.YtfkcpaahdlkcdaaGreatRRecvReads27
set_option linter.unusedSimpArgs false
set_option linter.unusedVariables false
set_option maxRecDepth 100000
set_option maxHeartbeats 16000000
namespace Go.Proofs.YtfkcpaahdlkcdaaGreat
open Go.RowKit
theorem zrD:Tryz.prog.underlying 187=some (.map 3 69):=by kernel_rfl
theorem zLL:Tryz.prog.underlying 69=some (.func #[46] #[43] false):=by kernel_rfl
theorem zLD (f:FuncId) (r:Array Value) (w:World):(binOp .eql 69 (.func (.func f) r #[]) .nilFunc).run Tryz.prog w=.ok (.bool false) w:=by
 have h:(Op.equal 69 (.func (.func f) r #[]) .nilFunc).run Tryz.prog w=.ok false w:=by
  show (Op.equalIn (9999+1) 69 (.func (.func f) r #[]) .nilFunc).run Tryz.prog w=.ok false w
  unfold Op.equalIn
  simp [run_underlying zLL,Result.andThen]
 simp [binOp,h,Result.andThen]
theorem ztB {w:World} {r clock:Nat} {es:Array MapEntry} (k:Int) (val:Value) (hb:w.heap[r]? = some (.map es clock)) (hf:Instr.findNow (.int .i64) (.int .i64 k) es.toList 0=some none) :
    ∃ w2,(Instr.mapUpdate 187 (.map (some r)) (.int .i64 k) val).run Tryz.prog w=.ok () w2∧w2.heap[r]? = some (.map (es.push { key:=.int .i64 k,val:=val,born:=clock }) (clock+1))∧Keep (fun k=>k=r) w w2:=by
 refine ⟨{ w with heap:=w.heap.setIfInBounds r (.map (es.push { key:=.int .i64 k,val:=val,born:=clock }) (clock+1)) },?_,(MapKept.heap_set hb).1,(Keep.refl (fun k=>k=r) w).setObj (.inl rfl) _⟩
 have hc:(Instr.checkKey false 10000 3 (.int .i64 k)).run Tryz.prog w=.ok () w:=MapKept.run_checkKey u_int (by simp [MapKept.IsKey]) false 9999
 simp [Instr.mapUpdate,run_underlying zrD,MapKept.run_getObj_map hb,hc,MapKept.run_findKey u_int hf,MapKept.run_setObj_map _ hb,Result.andThen]
def rtV (f:FuncId) (g:Nat):Value:=.func (.func f) #[.pointer (some ⟨g,0,none⟩)] #[]
def rtE (g:Nat):Array MapEntry:=#[⟨.int .i64 1,rtV 109 g,0⟩,⟨.int .i64 2,rtV 110 g,1⟩,⟨.int .i64 5,rtV 111 g,2⟩,⟨.int .i64 7,rtV 112 g,3⟩,⟨.int .i64 8,rtV 113 g,4⟩]
theorem zkE (g:Nat) (w:World):∃ w1 w2 w3 w4 w5,(Instr.mapUpdate 187 (.map (some w.heap.size)) (.int .i64 1) (.func (.func 109) #[.pointer (some ⟨g,0,none⟩)] #[])).run Tryz.prog (w.alloc (.map #[] 0))=.ok () w1 ∧
    (Instr.mapUpdate 187 (.map (some w.heap.size)) (.int .i64 2) (.func (.func 110) #[.pointer (some ⟨g,0,none⟩)] #[])).run Tryz.prog w1=.ok () w2 ∧
    (Instr.mapUpdate 187 (.map (some w.heap.size)) (.int .i64 5) (.func (.func 111) #[.pointer (some ⟨g,0,none⟩)] #[])).run Tryz.prog w2=.ok () w3 ∧
    (Instr.mapUpdate 187 (.map (some w.heap.size)) (.int .i64 7) (.func (.func 112) #[.pointer (some ⟨g,0,none⟩)] #[])).run Tryz.prog w3=.ok () w4 ∧
    (Instr.mapUpdate 187 (.map (some w.heap.size)) (.int .i64 8) (.func (.func 113) #[.pointer (some ⟨g,0,none⟩)] #[])).run Tryz.prog w4=.ok () w5 ∧
    Hid (Grow w w5∧w5.heap[w.heap.size]? = some (.map (rtE g) 5)):=by
 have hb0:=heap_alloc_new w (.map #[] 0)
 have hg0:Keep (fun k=>k=w.heap.size) w (w.alloc (.map #[] 0)):=((Keep.refl NoB w).alloc (.map #[] 0)).mono (fun _ h=>h.elim)
 obtain ⟨w1,r1,b1,k1⟩:=ztB 1 (rtV 109 g) hb0 rfl
 obtain ⟨w2,r2,b2,k2⟩:=ztB 2 (rtV 110 g) b1 (by rfl)
 obtain ⟨w3,r3,b3,k3⟩:=ztB 5 (rtV 111 g) b2 (by rfl)
 obtain ⟨w4,r4,b4,k4⟩:=ztB 7 (rtV 112 g) b3 (by rfl)
 obtain ⟨w5,r5,b5,k5⟩:=ztB 8 (rtV 113 g) b4 (by rfl)
 exact ⟨w1,w2,w3,w4,w5,r1,r2,r3,r4,r5,LH ⟨(((((hg0.trans k1 (fun _ h=>.inl h)).trans k2 (fun _ h=>.inl h)).trans k3 (fun _ h=>.inl h)).trans k4 (fun _ h=>.inl h)).trans k5 (fun _ h=>.inl h)).new (fun i e=>by rw [e];exact Nat.le_refl _),b5⟩⟩
theorem zlE {w:World} {b g:Nat} (hb:w.heap[b]? = some (.map (rtE g) 5)) (k:Int) (v:Value) (hf:∃ r,Instr.findNow (.int .i64) (.int .i64 k) (rtE g).toList 0=some r∧(match r with | some (_,v)=>v | none=>.nilFunc)=v):(Instr.lookup 187 (.map (some b)) (.int .i64 k) false).run Tryz.prog w=.ok v w:=by
 have hc:(Instr.checkKey false 10000 3 (.int .i64 k)).run Tryz.prog w=.ok () w:=MapKept.run_checkKey u_int (by simp [MapKept.IsKey]) false 9999
 have hz:(zeroValue 69).run Tryz.prog w=.ok .nilFunc w:=by simp [Tryz.zeroValue69]
 obtain ⟨r,hr,hv⟩:=hf
 rw [← hv]
 have he:((rtE g).isEmpty)=false:=rfl
 rcases r with _ | ⟨i,v⟩
 ·simp [Instr.lookup,run_underlying zrD,MapKept.run_getObj_map hb,hc,he,MapKept.run_findKey u_int hr,hz,Result.andThen]
 ·simp [Instr.lookup,run_underlying zrD,MapKept.run_getObj_map hb,hc,he,MapKept.run_findKey u_int hr,Result.andThen]
theorem zHC {g:Nat} {rc:RC} {w:World} (h:RCell g rc w) (session index of:Int) (sum:Nat) (A1 A2:Option Addr) (n1 c1' n2 c2':Nat) (R:Value→World→Prop) (hph:rc.phase≠3) (hc:∀ w1,Grow w w1→Calls Tryz.prog 109 #[.pointer (some ⟨g,0,none⟩),.agg #[.int .i64 1,.int .u64 session,.int .i64 index,.int .i64 of,.int .u32 (sum:Nat),.slice A1 n1 c1',.slice A2 n2 c2']] w1 fun e w'=>∃ v,e=.returned v∧R v w') :
    Calls Tryz.prog 39 #[.pointer (some ⟨g,0,none⟩),.agg #[.int .i64 1,.int .u64 session,.int .i64 index,.int .i64 of,.int .u32 (sum:Nat),.slice A1 n1 c1',.slice A2 n2 c2']] w fun e w'=>∃ v,e=.returned v∧R v w':=by
 have hd0:=(Keep.refl NoB w).alloc (.cells #[.int .i64 1,.int .u64 session,.int .i64 index,.int .i64 of,.int .u32 (sum:Nat),.slice A1 n1 c1',.slice A2 n2 c2'] 46)
 have HC:=LH (heap_alloc_new w (.cells #[.int .i64 1,.int .u64 session,.int .i64 index,.int .i64 of,.int .u32 (sum:Nat),.slice A1 n1 c1',.slice A2 n2 c2'] 46))
 have HG:=LH hd0
 have H:=LH (h.grow hd0)
 have HQ:=LH hc
 have hpb:(rc.phase==3)=false:=by simpa using hph
 clear h hd0 hc hph
 go_enter Tryz.func39,Tryz.ntmps39
 obtain ⟨w1,w2,w3,w4,w5,r1,r2,r3,r4,r5,HM⟩:=zkE g (w.alloc (.cells #[.int .i64 1,.int .u64 session,.int .i64 index,.int .i64 of,.int .u32 (sum:Nat),.slice A1 n1 c1',.slice A2 n2 c2'] 46))
 have hsz:(w.alloc (.cells #[.int .i64 1,.int .u64 session,.int .i64 index,.int .i64 of,.int .u32 (sum:Nat),.slice A1 n1 c1',.slice A2 n2 c2'] 46)).heap.size=w.heap.size+1:=by simp
 rw [hsz] at r1 r2 r3 r4 r5 HM
 have hm:=@run_makeMap Tryz.prog
 have hlook:=zlE HM.out.2 1 (rtV 109 g) ⟨_,rfl,rfl⟩
 unfold rtV at hlook
 have hnq:=zLD
 obtain ⟨z0,z1,z2,z3,z4,z5,z6,zf⟩:=zC (Grow.heap HM.out.1 HC.out)
 obtain ⟨c0,c1,c2,c3,c4,c5,c6,c7,c8,c9,c10,c11,c12,c13,c14,c15,c16,c17,c18,c19,c20,cf⟩:=zH H.out
 have HG5:=LH (HG.out.grow HM.out.1)
 go_wp2_with fail
 refine (HQ.out _ HG5.out).mono ?_
 rintro e w6 ⟨v,rfl,hr⟩
 have HR:=LH hr
 clear hr
 go_wp2
 go_ret
 exact ⟨_,rfl,HR.out⟩
theorem zZC {g:Nat} {rc:RC} {w:World} (h:RCell g rc w) (session index of:Int) (sum:Nat) (A1 A2:Option Addr) (n1 c1' n2 c2':Nat) (R:Value→World→Prop) (hph:rc.phase≠3) (hp0:rc.phase≠0) (hs:session=rc.session) (hm:sum=rc.sum) (hc:∀ w1,Grow w w1→Calls Tryz.prog 110 #[.pointer (some ⟨g,0,none⟩),.agg #[qQ,.int .u64 session,.int .i64 index,.int .i64 of,.int .u32 (sum:Nat),.slice A1 n1 c1',.slice A2 n2 c2']] w1 fun e w'=>∃ v,e=.returned v∧R v w') :
    Calls Tryz.prog 39 #[.pointer (some ⟨g,0,none⟩),.agg #[qQ,.int .u64 session,.int .i64 index,.int .i64 of,.int .u32 (sum:Nat),.slice A1 n1 c1',.slice A2 n2 c2']] w fun e w'=>∃ v,e=.returned v∧R v w':=by
 have hd0:=(Keep.refl NoB w).alloc (.cells #[qQ,.int .u64 session,.int .i64 index,.int .i64 of,.int .u32 (sum:Nat),.slice A1 n1 c1',.slice A2 n2 c2'] 46)
 have HC:=LH (heap_alloc_new w (.cells #[qQ,.int .u64 session,.int .i64 index,.int .i64 of,.int .u32 (sum:Nat),.slice A1 n1 c1',.slice A2 n2 c2'] 46))
 have HG:=LH hd0
 have H:=LH (h.grow hd0)
 have HQ:=LH hc
 have hpb:(rc.phase==3)=false:=by simpa using hph
 have hpb0:(rc.phase==0)=false:=by simpa using hp0
 have hsb:(session != rc.session)=false:=by simp [hs]
 have hmb:(((sum:Nat):Int) != ((rc.sum:Nat):Int))=false:=by simp [hm]
 clear h hd0 hc hph hp0 hs hm
 go_enter Tryz.func39,Tryz.ntmps39
 obtain ⟨w1,w2,w3,w4,w5,r1,r2,r3,r4,r5,HM⟩:=zkE g (w.alloc (.cells #[qQ,.int .u64 session,.int .i64 index,.int .i64 of,.int .u32 (sum:Nat),.slice A1 n1 c1',.slice A2 n2 c2'] 46))
 have hsz:(w.alloc (.cells #[qQ,.int .u64 session,.int .i64 index,.int .i64 of,.int .u32 (sum:Nat),.slice A1 n1 c1',.slice A2 n2 c2'] 46)).heap.size=w.heap.size+1:=by simp
 rw [hsz] at r1 r2 r3 r4 r5 HM
 have hm:=@run_makeMap Tryz.prog
 have hlook:=zlE HM.out.2 2 (rtV 110 g) ⟨_,rfl,rfl⟩
 unfold rtV at hlook
 have hnq:=zLD
 have HC5:=LH (Grow.heap HM.out.1 HC.out)
 obtain ⟨z0,z1,z2,z3,z4,z5,z6,zf⟩:=zC HC5.out
 have H5:=LH (H.out.grow HM.out.1)
 have HG5:=LH (HG.out.grow HM.out.1)
 obtain ⟨c0,c1,c2,c3,c4,c5,c6,c7,c8,c9,c10,c11,c12,c13,c14,c15,c16,c17,c18,c19,c20,cf⟩:=zH H.out
 obtain ⟨d0,d1,d2,d3,d4,d5,d6,d7,d8,d9,d10,d11,d12,d13,d14,d15,d16,d17,d18,d19,d20,df⟩:=zH H5.out
 clear HM H HG
 go_wp2
 refine zE (List.range 29) [28] [3,7,11,16,20,24] [] rfl (by kernel_rfl) ?_
 simp only [List.range,List.range.loop]
 iterate 3
  refine ord_p ?_
 refine oc1 d6 ?_
 iterate 2
  refine ord_p ?_
 refine zT ?_
 refine oc1G z1 ?_
 iterate 3
  refine zT ?_
 refine oc1G d8 ?_
 refine zT ?_
 iterate 2
  refine ord_p ?_
 refine zT ?_
 refine oc1G z4 ?_
 iterate 3
  refine zT ?_
 refine oc1G d9 ?_
 iterate 2
  refine zT ?_
 iterate 3
  refine zIB rfl rfl rfl rfl (fun _ _ _ _ h=>h) ?_ ?_ ?_
  rotate_left 1
  ·simp only [Act.put,pB,pC,pD];rfl
 refine zT ?_
 refine ord_p ?_
 refine ord_s ?_
 refine zD ?_
 replace HC5:=LH (show w5.drew.heap[_]? = _ from HC5.out)
 replace HG5:=LH HG5.out.drew
 clear z0 z1 z2 z3 z4 z5 z6 zf c0 c1 c2 c3 c4 c5 c6 c7 c8 c9 c10 c11 c12 c13 c14 c15 c16 c17 c18 c19 c20 cf d0 d1 d2 d3 d4 d5 d6 d7 d8 d9 d10 d11 d12 d13 d14 d15 d16 d17 d18 d19 d20 df hlook hnq hm r1 r2 r3 r4 r5 H5
 generalize w5.drew=w6 at HC5 HG5 ⊢
 obtain ⟨z0,z1,z2,z3,z4,z5,z6,zf⟩:=zC HC5.out
 go_wp2_with fail
 refine (HQ.out _ HG5.out).mono ?_
 rintro e w7 ⟨v,rfl,hr⟩
 have HR:=LH hr
 clear hr
 go_wp2
 go_ret
 exact ⟨_,rfl,HR.out⟩
theorem zeI {g:Nat} {rc:RC} {w:World} (h:RCell g rc w) (session index of:Int) (sum:Nat) (A1 A2:Option Addr) (n1 c1' n2 c2':Nat) (hp0:rc.phase=0) :
    Calls Tryz.prog 39 #[.pointer (some ⟨g,0,none⟩),.agg #[qQ,.int .u64 session,.int .i64 index,.int .i64 of,.int .u32 (sum:Nat),.slice A1 n1 c1',.slice A2 n2 c2']] w fun e w'=>∃ b,e=.returned (.slice (some ⟨b,0,none⟩) 1 1)∧OneG w' b 3 session 0 0 sum∧w.heap.size≤b∧Grow w w':=by
 have hd0:=(Keep.refl NoB w).alloc (.cells #[qQ,.int .u64 session,.int .i64 index,.int .i64 of,.int .u32 (sum:Nat),.slice A1 n1 c1',.slice A2 n2 c2'] 46)
 have HC:=LH (heap_alloc_new w (.cells #[qQ,.int .u64 session,.int .i64 index,.int .i64 of,.int .u32 (sum:Nat),.slice A1 n1 c1',.slice A2 n2 c2'] 46))
 have HG:=LH hd0
 have H:=LH (h.grow hd0)
 clear h hd0
 go_enter Tryz.func39,Tryz.ntmps39
 obtain ⟨w1,w2,w3,w4,w5,r1,r2,r3,r4,r5,HM⟩:=zkE g (w.alloc (.cells #[qQ,.int .u64 session,.int .i64 index,.int .i64 of,.int .u32 (sum:Nat),.slice A1 n1 c1',.slice A2 n2 c2'] 46))
 have hsz:(w.alloc (.cells #[qQ,.int .u64 session,.int .i64 index,.int .i64 of,.int .u32 (sum:Nat),.slice A1 n1 c1',.slice A2 n2 c2'] 46)).heap.size=w.heap.size+1:=by simp
 rw [hsz] at r1 r2 r3 r4 r5 HM
 have hm:=@run_makeMap Tryz.prog
 have hlook:=zlE HM.out.2 2 (rtV 110 g) ⟨_,rfl,rfl⟩
 unfold rtV at hlook
 have hnq:=zLD
 obtain ⟨z0,z1,z2,z3,z4,z5,z6,zf⟩:=zC (Grow.heap HM.out.1 HC.out)
 have H5:=LH (H.out.grow HM.out.1)
 have HG5:=LH (HG.out.grow HM.out.1)
 obtain ⟨c0,c1,c2,c3,c4,c5,c6,c7,c8,c9,c10,c11,c12,c13,c14,c15,c16,c17,c18,c19,c20,cf⟩:=zH H.out
 rw [hp0] at c6
 obtain ⟨d0,d1,d2,d3,d4,d5,d6,d7,d8,d9,d10,d11,d12,d13,d14,d15,d16,d17,d18,d19,d20,df⟩:=zH H5.out
 rw [hp0] at d6
 clear HM H HG
 go_wp2
 go_ret
 have hsz:=HG5.out.size
 exact ⟨_,rfl,heap_alloc_new w5 _,hsz,HG5.out.grow ((Keep.refl NoB w5).alloc _)⟩
theorem zMD {g:Nat} {rc:RC} {w:World} (h:RCell g rc w) (session index of:Int) (sum:Nat) (A1 A2:Option Addr) (n1 c1' n2 c2':Nat) (hp3:rc.phase=3) (k:Int) :
    Calls Tryz.prog 39 #[.pointer (some ⟨g,0,none⟩),.agg #[.int .i64 k,.int .u64 session,.int .i64 index,.int .i64 of,.int .u32 (sum:Nat),.slice A1 n1 c1',.slice A2 n2 c2']] w fun e w'=>e=.returned (.slice none 0 0)∧Grow w w':=by
 have hd0:=(Keep.refl NoB w).alloc (.cells #[.int .i64 k,.int .u64 session,.int .i64 index,.int .i64 of,.int .u32 (sum:Nat),.slice A1 n1 c1',.slice A2 n2 c2'] 46)
 have HG:=LH hd0
 have H:=LH (h.grow hd0)
 clear h hd0
 go_enter Tryz.func39,Tryz.ntmps39
 obtain ⟨c0,c1,c2,c3,c4,c5,c6,c7,c8,c9,c10,c11,c12,c13,c14,c15,c16,c17,c18,c19,c20,cf⟩:=zH H.out
 rw [hp3] at c6
 go_wp2
 go_ret
 exact ⟨rfl,HG.out⟩
theorem zNH {g:Nat} {rc:RC} {w:World} {ad:Addr} (h:RCell g rc w) (hph:rc.phase≠0) (hpt:rc.part=some ad) (index of:Int) (A1 A2:Option Addr) (n1 c1' n2 c2':Nat) :
    Calls Tryz.prog 109 #[.pointer (some ⟨g,0,none⟩),.agg #[.int .i64 1,.int .u64 rc.session,.int .i64 index,.int .i64 of,.int .u32 (rc.sum:Nat),.slice A1 n1 c1',.slice A2 n2 c2']] w fun e w'=>e=.returned (.slice none 0 0)∧RCell g { rc with resumed:=false,closed:=false } w'∧Keep (fun k=>k=g) w w':=by
 have hg0:=(Keep.refl NoB w).alloc (.cells #[.int .i64 1,.int .u64 rc.session,.int .i64 index,.int .i64 of,.int .u32 (rc.sum:Nat),.slice A1 n1 c1',.slice A2 n2 c2'] 46)
 have HLT:Hid (g<w.heap.size):=LH h.lt
 have H:=LH (h.grow hg0)
 have HZ:=LH (heap_alloc_new w (.cells #[.int .i64 1,.int .u64 rc.session,.int .i64 index,.int .i64 of,.int .u32 (rc.sum:Nat),.slice A1 n1 c1',.slice A2 n2 c2'] 46))
 have HG:=LH hg0
 have hpb:(rc.phase != 0)=true:=by simpa using hph
 clear h hg0 hph
 go_enter Tryz.func109,Tryz.ntmps109
 obtain ⟨c0,c1,c2,c3,c4,c5,c6,c7,c8,c9,c10,c11,c12,c13,c14,c15,c16,c17,c18,c19,c20,cf⟩:=zH H.out
 rw [hpt] at c0
 obtain ⟨z0,z1,z2,z3,z4,z5,z6,zf⟩:=zC HZ.out
 go_wp2_with fail
 refine (zEB H.out 1 rc.session index of rc.sum A1 A2 n1 c1' n2 c2').mono ?_
 rintro e w1 ⟨rfl,hg⟩
 replace H:=LH (H.out.grow hg)
 replace HG:=LH (HG.out.grow hg)
 have hdd:decide (rc.session=rc.session∧rc.sum=rc.sum)=true:=by simp
 rw [hdd]
 clear hg hdd c0 c1 c2 c3 c4 c5 c6 c7 c8 c9 c10 c11 c12 c13 c14 c15 c16 c17 c18 c19 c20 cf z0 z1 z2 z3 z4 z5 z6 zf
 obtain ⟨c0,c1,c2,c3,c4,c5,c6,c7,c8,c9,c10,c11,c12,c13,c14,c15,c16,c17,c18,c19,c20,cf⟩:=zH H.out
 rw [hpt] at c0
 have h1:=H.out.put (d':={ rc with resumed:=false }) 19 (.bool false) rfl
 have h2:=h1.1.put (d':={ rc with resumed:=false,closed:=false }) 20 (.bool false) rfl
 have HN:=LH (And.intro h2.1 ((HG.out.mono (T:=fun k=>k=g) (fun _ h=>h.elim)).trans (h1.2.trans h2.2 (fun _ h=>.inl h)) (fun _ h=>.inl h)))
 clear h1 h2
 go_wp2
 go_ret
 exact ⟨rfl,HN.out⟩
theorem zRL {sz:List Int} {wd:Int→Int→Int×Int} (h:SouOk sz wd) {seg at_:Int} (h1:(ptrAt wd seg at_).2=0):0≤seg∧0≤at_∧at_≤100000:=by
 refine h.inb seg at_ ?_
 unfold ptrAt at h1
 split at h1
 ·assumption
 ·exact h1
theorem zGK {sz:List Int} {wd:Int→Int→Int×Int} (h:SouOk sz wd) (p:Pt):ObOk (twiceO wd p).1:=by
 unfold twiceO
 repeat' split
 all_goals first | exact zAJ | exact zyA (zeB _ (h.val _ _).1) _ _
theorem zJA (a:List (List Int)) (ho:OkA a) (A:Option Addr) (c:Nat) (w:World) (h:RowsR .u64 a (.slice A a.length c) w) (seg at_:Int):Calls Tryz.prog 173 #[.agg #[.slice A a.length c,qL,qI],.int .i64 seg,.int .i64 at_] w (QFPost (followP (szs a) (wordA a) seg at_) w):=by
 have hga:=(Keep.refl NoB w).alloc (.cells #[.slice A a.length c,qL,qI] 186)
 have hgb:=hga.alloc (.cells () 257)
 have h2:=zU w (.cells #[.slice A a.length c,qL,qI] 186) (.cells () 257)
 have HZ:=LH h2.2.1
 have HS:=LH h2.1
 have HG:=LH hgb
 have H:=LH (h.grow hgb)
 have HA:=LH ho
 have hso:=zi ho
 have HSO:=LH hso
 have E0:Hid (followP (szs a) (wordA a) seg at_=if (ptrAt (wordA a) seg at_).2=0∧(ptrAt (wordA a) seg at_).1.kind≠0 then
  if isNear (ptrAt (wordA a) seg at_).1 then foundO (szs a) (obOf (ptrAt (wordA a) seg at_).1 seg (at_+1+(ptrAt (wordA a) seg at_).1.off))
  else if (ptrAt (wordA a) seg at_).1.dbl then twiceP (szs a) (wordA a) (ptrAt (wordA a) seg at_).1
  else landedP (szs a) (wordA a) (ptrAt (wordA a) seg at_).1
 else (ob0,(ptrAt (wordA a) seg at_).2)):=LH rfl
 have HPO:=LH (zVB hso seg at_)
 have HIN:=LH (zRL hso (seg:=seg) (at_:=at_))
 have HPT:=LH (zPE a ho A c _ (h.grow hgb) seg at_)
 have HQ:Hid (∀ e w' w0,QPAPost (wordA a) seg at_ w0 e w'→e=.returned (.tuple #[.agg (ptrAt (wordA a) seg at_).1,.int .i64 (ptrAt (wordA a) seg at_).2])∧Grow w0 w'):=LH (fun _ _ _ h=>h)
 obtain ⟨m0,m1,m2,mf⟩:=zI HS.out
 clear h ho hga hgb h2 hso
 go_enter Tryz.func173,Tryz.ntmps173
 go_wp2_with fail
 refine HPT.out.mono ?_
 intro e w1 hpost
 replace hpost:=HQ.out _ _ _ hpost
 clear HPT HQ
 generalize ptrAt (wordA a) seg at_=RP at *
 obtain ⟨rfl,hg⟩:=hpost
 have hg8:=(Keep.refl NoB w1).alloc (.cells RP.1 120)
 have HP8:=LH (heap_alloc_new w1 (.cells RP.1 120))
 have hz1:=Grow.heap hg HZ.out
 have hb1:w.heap.size+1<w1.heap.size:=(gE hz1).1
 have hne1:w1.heap.size≠w.heap.size+1:=by omega
 have hne2:w.heap.size+1≠w1.heap.size:=by omega
 replace HZ:=LH (Grow.heap hg8 hz1)
 replace HS:=LH (Grow.heap (hg.grow hg8) HS.out)
 replace HG:=LH (HG.out.grow (hg.grow hg8))
 replace H:=LH (H.out.grow (hg.grow hg8))
 clear hg hg8 hz1 hb1 m0 m1 m2 mf
 obtain ⟨c0,c1,c2,c3,c4,c5,c6,c7,cf⟩:=zP HP8.out
 by_cases he:RP.2=0
 case neg =>
  have heb:(RP.2 != 0)=true:=by simp [he]
  replace E0:=LH (E0.out.trans (if_neg (fun h=>he h.1)))
  clear he
  obtain ⟨y0,y1,y2,y3,y4,y5,y6,yf⟩:=zC HZ.out
  go_wp2
  refine ret7 HG.out (Nat.le_succ _) HZ.out (fun w' z0 z1 z2 z3 z4 z5 z6 zf=>?_) rfl (fun w' hg=>⟨by rw [E0.out];rfl,hg⟩)
  rw [results_cell_tmp rfl];go_simp
 have heb:(RP.2 != 0)=false:=by simp [he]
 by_cases hk0:RP.1.kind=0
 case pos =>
  have hkb:(RP.1.kind==0)=true:=by simp [hk0]
  replace E0:=LH (E0.out.trans (if_neg (fun h=>h.2 hk0)))
  clear he hk0
  obtain ⟨y0,y1,y2,y3,y4,y5,y6,yf⟩:=zC HZ.out
  go_wp2
  refine ret7 HG.out (Nat.le_succ _) HZ.out (fun w' z0 z1 z2 z3 z4 z5 z6 zf=>?_) rfl (fun w' hg=>⟨by rw [E0.out];rfl,hg⟩)
  rw [results_cell_tmp rfl];go_simp
 have hkb:(RP.1.kind==0)=false:=by simp [hk0]
 replace E0:=LH (E0.out.trans (if_pos ⟨he,hk0⟩))
 obtain ⟨hi0,hi1,hi2⟩:=HIN.out he
 clear he hk0
 go_wp2_with fail
 refine (show Calls Tryz.prog 224 #[.agg RP.1] _ (fun e w'=>e=.returned (.bool (isNear RP.1))∧Grow _ w') from zJC RP.1 _).mono ?_
 rintro e w3 ⟨rfl,hg⟩
 replace HP8:=LH (Grow.heap hg HP8.out)
 replace HS:=LH (Grow.heap hg HS.out)
 replace HZ:=LH (Grow.heap hg HZ.out)
 replace HG:=LH (HG.out.grow hg)
 replace H:=LH (H.out.grow hg)
 clear hg c0 c1 c2 c3 c4 c5 c6 c7 cf heb hkb
 obtain ⟨c0,c1,c2,c3,c4,c5,c6,c7,cf⟩:=zP HP8.out
 obtain ⟨m0,m1,m2,mf⟩:=zI HS.out
 have hpo:=HPO.out.o
 have hwa:IntKind.i64.wrap (at_+1)=at_+1:=IntWalk.i64_in _ (by omega)
 have hwb:IntKind.i64.wrap (at_+1+RP.1.off)=at_+1+RP.1.off:=IntWalk.i64_in _ (by omega)
 rcases hnr:isNear RP.1 with _ | _
 case true =>
  replace E0:=LH (E0.out.trans (if_pos hnr))
  clear hnr
  obtain ⟨F,HFO⟩:∃ F,Hid (foundO (szs a) (obOf RP.1 seg (at_+1+RP.1.off))=F):=⟨_,LH rfl⟩
  replace E0:=LH (E0.out.trans HFO.out)
  go_wp2
  refine zOB NoB [0,1,2,3,4,5,6,7] [] [0,1,6] [14] #[true,true,true,true,true,true,true,true,false,false,false,false,false,false,false,false] 8 rfl (by kernel_rfl) ?_
  refine oc3 m0 m1 m2 ?_
  refine ord_r (y:=by intro w' hg;have q0:=hg.cell c0 (fun h=>h);have q1:=hg.cell c1 (fun h=>h);have q2:=hg.cell c2 (fun h=>h);have q3:=hg.cell c3 (fun h=>h);have q4:=hg.cell c4 (fun h=>h);have q5:=hg.cell c5 (fun h=>h);have q6:=hg.cell c6 (fun h=>h);have q7:=hg.cell c7 (fun h=>h);go_simp;with_reducible rfl) (z:=?_)
  iterate 4
   refine ord_p ?_
  refine oc1 c1 ?_
  refine ord_p ?_
  clear c0 c1 c2 c3 c4 c5 c6 c7 cf m0 m1 m2 mf
  refine zD ?_
  have hgd:=(Keep.refl NoB w3).drew
  replace HZ:=LH (Grow.heap hgd HZ.out)
  replace HG:=LH (HG.out.grow hgd)
  replace H:=LH (H.out.grow hgd)
  clear hgd
  refine zrA 8 13 #[true,true,true,true,true,true,true,true,true,false,false,false,false,false,false,false] #[true,true,true,true,true,true,true,true,false,false,false,false,false,true,false,false] (by kernel_rfl) ?_ ?_
  ·
   refine zG rfl rfl rfl rfl rfl Tryz.func226 rfl rfl [.agg RP.1,.int .i64 seg,.int .i64 (at_+1+RP.1.off)] rfl ?_
   refine (show Calls Tryz.prog 226 #[.agg RP.1,.int .i64 seg,.int .i64 (at_+1+RP.1.off)] _ (QObPost (obOf RP.1 seg (at_+1+RP.1.off)) _) from zSB RP.1 seg (at_+1+RP.1.off) _).mono ?_
   rintro e wA ⟨rfl,hg⟩
   refine ⟨_,rfl,fun _=>hg,?_⟩
   replace HZ:=LH (Grow.heap hg HZ.out)
   replace HG:=LH (HG.out.grow hg)
   replace H:=LH (H.out.grow hg)
   have hgA:=hg
   clear hg
   simp only [Act.put,pB,pC,pD]
   refine zD ?_
   refine zrA 9 13 #[true,true,true,true,true,true,true,true,true,true,false,false,false,false,false,false] #[true,true,true,true,true,true,true,true,true,false,false,false,false,true,false,false] (by kernel_rfl) ?_ ?_
   ·
    refine zG rfl rfl rfl rfl rfl Tryz.func225 rfl rfl [(.agg #[.slice A a.length c,qL,qI]),.agg (obOf RP.1 seg (at_+1+RP.1.off))] rfl ?_
    refine (show Calls Tryz.prog 225 #[(.agg #[.slice A a.length c,qL,qI]),.agg (obOf RP.1 seg (at_+1+RP.1.off))] _ (QFPost (foundO (szs a) (obOf RP.1 seg (at_+1+RP.1.off))) _) from zIA a HA.out A c _ H.out (obOf RP.1 seg (at_+1+RP.1.off)) (zyA HPO.out seg (at_+1+RP.1.off))).mono ?_
    rintro e wB ⟨rfl,hg⟩
    refine ⟨_,rfl,fun _=>hg,?_⟩
    rw [HFO.out]
    replace HZ:=LH (Grow.heap hg HZ.out)
    replace HG:=LH (HG.out.grow hg)
    replace H:=LH (H.out.grow hg)
    have hgB:=hg
    clear hg
    simp only [Act.put,pB,pC,pD]
    refine zD ?_
    refine zbE (n:=3) [10,11,12] [] [] #[true,true,true,true,true,true,true,true,true,true,true,true,true,false,false,false] (by kernel_rfl) ?_
    iterate 3
     refine ord_p ?_
    refine zD ?_
    refine zPA [13,14,15] [13,14,15] [] (by kernel_rfl) ?_
    refine zh rfl rfl rfl rfl ?_ ?_ ?_ ?_ ?_ ?_
    rotate_left 3
    ·go_simp;first | with_reducible rfl | (constructor <;> with_reducible rfl)
    ·simp only [Act.put,pB,pC,pD];rfl
    have hzn:=heap_alloc_new wB (.cells () 257)
    have hgn:=(Keep.refl NoB wB).alloc (.cells () 257)
    have hbn:w.heap.size+1<wB.heap.size:=by have:=(gE HZ.out).1;exact this
    obtain ⟨T,hT⟩:∃ T,wB.heap.size=T:=⟨_,rfl⟩
    generalize wB.alloc (.cells () 257)=wN at hzn hgn ⊢
    skip
    rw [hT] at hzn hbn ⊢
    clear hT
    have HT:=LH hzn
    have HB:=LH hbn
    replace HZ:=LH (Grow.heap hgn HZ.out)
    replace HG:=LH (HG.out.grow hgn)
    replace H:=LH (H.out.grow hgn)
    clear hzn hgn hbn
    have hzt:=HT.out
    obtain ⟨t0,t1,t2,t3,t4,t5,t6,tf⟩:=zC hzt
    have hbt:=HB.out
    refine zNB hzt ?_
    intro wT hkt hst
    have HGT:=LH (HG.out.trans hkt (fun j hj=>.inr (by omega)))
    have HZT:=LH ((hkt.block (w.heap.size+1) (gE HZ.out).1 (by omega)).trans HZ.out)
    have HST:=LH hst
    clear hkt hst hzt t0 t1 t2 t3 t4 t5 t6 tf
    refine ord_s ?_
    refine zD ?_
    obtain ⟨t0,t1,t2,t3,t4,t5,t6,tf⟩:=zC HST.out
    have hneT:w.heap.size+1≠T:=by have:=HB.out;omega
    have hneT2:T≠w.heap.size+1:=fun e=>hneT e.symm
    obtain ⟨y0,y1,y2,y3,y4,y5,y6,yf⟩:=zC HZT.out
    go_wp2
    refine ret7 HGT.out (Nat.le_succ _) HZT.out (fun w' z0 z1 z2 z3 z4 z5 z6 zf=>?_) rfl (fun w' hg=>⟨by rw [E0.out],hg⟩)
    rw [results_cell_tmp rfl];go_simp
   ·
    refine zh rfl rfl rfl rfl ?_ ?_ ?_ ?_ ?_ ?_
    rotate_left 3
    ·go_simp;first | with_reducible rfl | (constructor <;> with_reducible rfl)
    ·simp only [Act.put,pB,pC,pD];rfl
    have hzn:=heap_alloc_new wA (.cells () 257)
    have hgn:=(Keep.refl NoB wA).alloc (.cells () 257)
    have hbn:w.heap.size+1<wA.heap.size:=by have:=(gE HZ.out).1;exact this
    obtain ⟨T,hT⟩:∃ T,wA.heap.size=T:=⟨_,rfl⟩
    generalize wA.alloc (.cells () 257)=wN at hzn hgn ⊢
    skip
    rw [hT] at hzn hbn ⊢
    clear hT
    have HT:=LH hzn
    have HB:=LH hbn
    replace HZ:=LH (Grow.heap hgn HZ.out)
    replace HG:=LH (HG.out.grow hgn)
    replace H:=LH (H.out.grow hgn)
    clear hzn hgn hbn
    refine zD ?_
    refine zPA [9,10,11,12,14,15] [9,14,15] [] (by kernel_rfl) ?_
    refine zG rfl rfl rfl rfl rfl Tryz.func225 rfl rfl [(.agg #[.slice A a.length c,qL,qI]),.agg (obOf RP.1 seg (at_+1+RP.1.off))] rfl ?_
    refine (show Calls Tryz.prog 225 #[(.agg #[.slice A a.length c,qL,qI]),.agg (obOf RP.1 seg (at_+1+RP.1.off))] _ (QFPost (foundO (szs a) (obOf RP.1 seg (at_+1+RP.1.off))) _) from zIA a HA.out A c _ H.out (obOf RP.1 seg (at_+1+RP.1.off)) (zyA HPO.out seg (at_+1+RP.1.off))).mono ?_
    rintro e wB ⟨rfl,hg⟩
    refine ⟨_,rfl,fun _=>hg,?_⟩
    rw [HFO.out]
    replace HZ:=LH (Grow.heap hg HZ.out)
    replace HG:=LH (HG.out.grow hg)
    replace H:=LH (H.out.grow hg)
    have hgB:=hg
    clear hg
    simp only [Act.put,pB,pC,pD]
    replace HT:=LH (Grow.heap hgB HT.out)
    iterate 3
     refine ord_p ?_
    have hzt:=HT.out
    obtain ⟨t0,t1,t2,t3,t4,t5,t6,tf⟩:=zC hzt
    have hbt:=HB.out
    refine zNB hzt ?_
    intro wT hkt hst
    have HGT:=LH (HG.out.trans hkt (fun j hj=>.inr (by omega)))
    have HZT:=LH ((hkt.block (w.heap.size+1) (gE HZ.out).1 (by omega)).trans HZ.out)
    have HST:=LH hst
    clear hkt hst hzt t0 t1 t2 t3 t4 t5 t6 tf
    refine ord_s ?_
    refine zD ?_
    obtain ⟨t0,t1,t2,t3,t4,t5,t6,tf⟩:=zC HST.out
    have hneT:w.heap.size+1≠T:=by have:=HB.out;omega
    have hneT2:T≠w.heap.size+1:=fun e=>hneT e.symm
    obtain ⟨y0,y1,y2,y3,y4,y5,y6,yf⟩:=zC HZT.out
    go_wp2
    refine ret7 HGT.out (Nat.le_succ _) HZT.out (fun w' z0 z1 z2 z3 z4 z5 z6 zf=>?_) rfl (fun w' hg=>⟨by rw [E0.out],hg⟩)
    rw [results_cell_tmp rfl];go_simp
  ·
   refine zh rfl rfl rfl rfl ?_ ?_ ?_ ?_ ?_ ?_
   rotate_left 3
   ·go_simp;first | with_reducible rfl | (constructor <;> with_reducible rfl)
   ·simp only [Act.put,pB,pC,pD];rfl
   have hzn:=heap_alloc_new w3.drew (.cells () 257)
   have hgn:=(Keep.refl NoB w3.drew).alloc (.cells () 257)
   have hbn:w.heap.size+1<w3.drew.heap.size:=by have:=(gE HZ.out).1;exact this
   obtain ⟨T,hT⟩:∃ T,w3.heap.size=T:=⟨_,rfl⟩
   generalize w3.drew.alloc (.cells () 257)=wN at hzn hgn ⊢
   rw [show w3.drew.heap.size=w3.heap.size from rfl] at hzn hbn
   rw [hT] at hzn hbn ⊢
   clear hT
   have HT:=LH hzn
   have HB:=LH hbn
   replace HZ:=LH (Grow.heap hgn HZ.out)
   replace HG:=LH (HG.out.grow hgn)
   replace H:=LH (H.out.grow hgn)
   clear hzn hgn hbn
   refine zD ?_
   refine zPA [8,9,10,11,12,14,15] [8,9,14,15] [] (by kernel_rfl) ?_
   refine zG rfl rfl rfl rfl rfl Tryz.func226 rfl rfl [.agg RP.1,.int .i64 seg,.int .i64 (at_+1+RP.1.off)] rfl ?_
   refine (show Calls Tryz.prog 226 #[.agg RP.1,.int .i64 seg,.int .i64 (at_+1+RP.1.off)] _ (QObPost (obOf RP.1 seg (at_+1+RP.1.off)) _) from zSB RP.1 seg (at_+1+RP.1.off) _).mono ?_
   rintro e wA ⟨rfl,hg⟩
   refine ⟨_,rfl,fun _=>hg,?_⟩
   replace HZ:=LH (Grow.heap hg HZ.out)
   replace HG:=LH (HG.out.grow hg)
   replace H:=LH (H.out.grow hg)
   have hgA:=hg
   clear hg
   simp only [Act.put,pB,pC,pD]
   replace HT:=LH (Grow.heap hgA HT.out)
   refine zG rfl rfl rfl rfl rfl Tryz.func225 rfl rfl [(.agg #[.slice A a.length c,qL,qI]),.agg (obOf RP.1 seg (at_+1+RP.1.off))] rfl ?_
   refine (show Calls Tryz.prog 225 #[(.agg #[.slice A a.length c,qL,qI]),.agg (obOf RP.1 seg (at_+1+RP.1.off))] _ (QFPost (foundO (szs a) (obOf RP.1 seg (at_+1+RP.1.off))) _) from zIA a HA.out A c _ H.out (obOf RP.1 seg (at_+1+RP.1.off)) (zyA HPO.out seg (at_+1+RP.1.off))).mono ?_
   rintro e wB ⟨rfl,hg⟩
   refine ⟨_,rfl,fun _=>hg,?_⟩
   rw [HFO.out]
   replace HZ:=LH (Grow.heap hg HZ.out)
   replace HG:=LH (HG.out.grow hg)
   replace H:=LH (H.out.grow hg)
   have hgB:=hg
   clear hg
   simp only [Act.put,pB,pC,pD]
   replace HT:=LH (Grow.heap hgB HT.out)
   iterate 3
    refine ord_p ?_
   have hzt:=HT.out
   obtain ⟨t0,t1,t2,t3,t4,t5,t6,tf⟩:=zC hzt
   have hbt:=HB.out
   refine zNB hzt ?_
   intro wT hkt hst
   have HGT:=LH (HG.out.trans hkt (fun j hj=>.inr (by omega)))
   have HZT:=LH ((hkt.block (w.heap.size+1) (gE HZ.out).1 (by omega)).trans HZ.out)
   have HST:=LH hst
   clear hkt hst hzt t0 t1 t2 t3 t4 t5 t6 tf
   refine ord_s ?_
   refine zD ?_
   obtain ⟨t0,t1,t2,t3,t4,t5,t6,tf⟩:=zC HST.out
   have hneT:w.heap.size+1≠T:=by have:=HB.out;omega
   have hneT2:T≠w.heap.size+1:=fun e=>hneT e.symm
   obtain ⟨y0,y1,y2,y3,y4,y5,y6,yf⟩:=zC HZT.out
   go_wp2
   refine ret7 HGT.out (Nat.le_succ _) HZT.out (fun w' z0 z1 z2 z3 z4 z5 z6 zf=>?_) rfl (fun w' hg=>⟨by rw [E0.out],hg⟩)
   rw [results_cell_tmp rfl];go_simp
 case false =>
  replace E0:=LH (E0.out.trans (if_neg (by rw [hnr];simp)))
  clear hnr hwa hwb
  rcases hdb:RP.1.dbl with _ | _
  case true =>
   replace E0:=LH ((E0.out.trans (if_pos hdb)).trans (zFK _ _ _))
   have HDC:=LH (show Calls Tryz.prog 227 #[.agg #[.slice A a.length c,qL,qI],.agg RP.1] w3 (QFPost (twiceO (wordA a) RP.1) w3) from zVF a HA.out A c w3 H.out RP.1 HPO.out)
   have HDO:=LH (zGK HSO.out RP.1)
   rw [hdb] at c7 HDC
   generalize twiceO (wordA a) RP.1=D at *
   clear hdb
   go_wp2_with fail
   refine HDC.out.mono ?_
   rintro e w4 ⟨rfl,hg⟩
   have hgd:=(Keep.refl NoB w4).alloc (.cells D.1 257)
   have HDB:=LH (heap_alloc_new w4 (.cells D.1 257))
   have hz4:=Grow.heap hg HZ.out
   have hb4:w.heap.size+1<w4.heap.size:=(gE hz4).1
   have hne3:w4.heap.size≠w.heap.size+1:=by omega
   have hne4:w.heap.size+1≠w4.heap.size:=by omega
   replace HS:=LH (Grow.heap (hg.grow hgd) HS.out)
   replace HZ:=LH (Grow.heap (hg.grow hgd) HZ.out)
   replace HG:=LH (HG.out.grow (hg.grow hgd))
   replace H:=LH (H.out.grow (hg.grow hgd))
   clear hg hgd hz4 hb4 c0 c1 c2 c3 c4 c5 c6 c7 cf m0 m1 m2 mf HDC
   obtain ⟨d0,d1,d2,d3,d4,d5,d6,df⟩:=zC HDB.out
   obtain ⟨m0,m1,m2,mf⟩:=zI HS.out
   by_cases hde:D.2=0
   case neg =>
    have heb:(D.2 != 0)=true:=by simp [hde]
    replace E0:=LH (E0.out.trans (if_neg hde))
    clear hde
    obtain ⟨y0,y1,y2,y3,y4,y5,y6,yf⟩:=zC HZ.out
    go_wp2
    refine ret7 HG.out (Nat.le_succ _) HZ.out (fun w' z0 z1 z2 z3 z4 z5 z6 zf=>?_) rfl (fun w' hg=>⟨by rw [E0.out];rfl,hg⟩)
    rw [results_cell_tmp rfl];go_simp
   have heb:(D.2 != 0)=false:=by simp [hde]
   replace E0:=LH (E0.out.trans (if_pos hde))
   clear hde
   have HBC:=LH (zIA a HA.out A c _ H.out D.1 HDO.out)
   generalize foundO (szs a) D.1=F at *
   go_wp2_with fail
   refine HBC.out.mono ?_
   rintro e w5 ⟨rfl,hg⟩
   have hgf:=(Keep.refl NoB w5).alloc (.cells F.1 257)
   have hfb:=heap_alloc_new w5 (.cells F.1 257)
   have hz5:=Grow.heap hg HZ.out
   have hb5:w.heap.size+1<w5.heap.size:=(gE hz5).1
   have hne5:w5.heap.size≠w.heap.size+1:=by omega
   have hne6:w.heap.size+1≠w5.heap.size:=by omega
   replace HZ:=LH (Grow.heap (hg.grow hgf) HZ.out)
   replace HG:=LH (HG.out.grow (hg.grow hgf))
   replace H:=LH (H.out.grow (hg.grow hgf))
   clear hg hgf hz5 hb5 d0 d1 d2 d3 d4 d5 d6 df m0 m1 m2 mf HBC heb
   obtain ⟨d0,d1,d2,d3,d4,d5,d6,df⟩:=zC hfb
   clear hfb
   obtain ⟨y0,y1,y2,y3,y4,y5,y6,yf⟩:=zC HZ.out
   go_wp2
   refine ret7 HG.out (Nat.le_succ _) HZ.out (fun w' z0 z1 z2 z3 z4 z5 z6 zf=>?_) rfl (fun w' hg=>⟨by rw [E0.out],hg⟩)
   rw [results_cell_tmp rfl];go_simp
  replace E0:=LH (E0.out.trans (if_neg (by rw [hdb];simp)))
  have E1:Hid (landedP (szs a) (wordA a) RP.1=if (ptrAt (wordA a) RP.1.seg RP.1.off).2=0 then if isNear (ptrAt (wordA a) RP.1.seg RP.1.off).1 then foundO (szs a) (obOf (ptrAt (wordA a) RP.1.seg RP.1.off).1 RP.1.seg (RP.1.off+1+(ptrAt (wordA a) RP.1.seg RP.1.off).1.off)) else (ob0,23) else (ob0,(ptrAt (wordA a) RP.1.seg RP.1.off).2)):=LH rfl
  replace E0:=LH (E0.out.trans E1.out)
  have HPQ:=LH (zVB HSO.out RP.1.seg RP.1.off)
  have HPT:=LH (zPE a HA.out A c w3 H.out RP.1.seg RP.1.off)
  have HQ:Hid (∀ e w' w0,QPAPost (wordA a) RP.1.seg RP.1.off w0 e w'→e=.returned (.tuple #[.agg (ptrAt (wordA a) RP.1.seg RP.1.off).1,.int .i64 (ptrAt (wordA a) RP.1.seg RP.1.off).2])∧Grow w0 w'):=LH (fun _ _ _ h=>h)
  rw [hdb] at c7
  clear hdb E1
  go_wp2_with fail
  refine HPT.out.mono ?_
  intro e w4 hpost
  replace hpost:=HQ.out _ _ _ hpost
  clear HPT HQ
  generalize ptrAt (wordA a) RP.1.seg RP.1.off=RQ at *
  obtain ⟨rfl,hg⟩:=hpost
  have hg8:=(Keep.refl NoB w4).alloc (.cells RQ.1 120)
  have HQ8:=LH (heap_alloc_new w4 (.cells RQ.1 120))
  have hz4:=Grow.heap hg HZ.out
  have hb4:w.heap.size+1<w4.heap.size:=(gE hz4).1
  have hne3:w4.heap.size≠w.heap.size+1:=by omega
  have hne4:w.heap.size+1≠w4.heap.size:=by omega
  replace HS:=LH (Grow.heap (hg.grow hg8) HS.out)
  replace HP8:=LH (Grow.heap (hg.grow hg8) HP8.out)
  replace HZ:=LH (Grow.heap (hg.grow hg8) HZ.out)
  replace HG:=LH (HG.out.grow (hg.grow hg8))
  replace H:=LH (H.out.grow (hg.grow hg8))
  clear hg hg8 hz4 hb4 c0 c1 c2 c3 c4 c5 c6 c7 cf m0 m1 m2 mf
  obtain ⟨q0,q1,q2,q3,q4,q5,q6,q7,qf⟩:=zP HQ8.out
  by_cases he:RQ.2=0
  case neg =>
   have heb:(RQ.2 != 0)=true:=by simp [he]
   replace E0:=LH (E0.out.trans (if_neg he))
   clear he
   obtain ⟨y0,y1,y2,y3,y4,y5,y6,yf⟩:=zC HZ.out
   go_wp2
   refine ret7 HG.out (Nat.le_succ _) HZ.out (fun w' z0 z1 z2 z3 z4 z5 z6 zf=>?_) rfl (fun w' hg=>⟨by rw [E0.out];rfl,hg⟩)
   rw [results_cell_tmp rfl];go_simp
  have heb:(RQ.2 != 0)=false:=by simp [he]
  replace E0:=LH (E0.out.trans (if_pos he))
  clear he
  go_wp2_with fail
  refine (show Calls Tryz.prog 224 #[.agg RQ.1] _ (fun e w'=>e=.returned (.bool (isNear RQ.1))∧Grow _ w') from zJC RQ.1 _).mono ?_
  rintro e w5 ⟨rfl,hg⟩
  replace HP8:=LH (Grow.heap hg HP8.out)
  replace HQ8:=LH (Grow.heap hg HQ8.out)
  replace HS:=LH (Grow.heap hg HS.out)
  replace HZ:=LH (Grow.heap hg HZ.out)
  replace HG:=LH (HG.out.grow hg)
  replace H:=LH (H.out.grow hg)
  clear hg q0 q1 q2 q3 q4 q5 q6 q7 qf heb
  rcases hnr:isNear RQ.1 with _ | _
  case false =>
   replace E0:=LH (E0.out.trans (if_neg (by rw [hnr];simp)))
   clear hnr
   obtain ⟨y0,y1,y2,y3,y4,y5,y6,yf⟩:=zC HZ.out
   go_wp2
   refine ret7 HG.out (Nat.le_succ _) HZ.out (fun w' z0 z1 z2 z3 z4 z5 z6 zf=>?_) rfl (fun w' hg=>⟨by rw [E0.out];rfl,hg⟩)
   rw [results_cell_tmp rfl];go_simp
  replace E0:=LH (E0.out.trans (if_pos hnr))
  have hpq:=HPQ.out.o
  have hwa:IntKind.i64.wrap (RP.1.off+1)=RP.1.off+1:=IntWalk.i64_in _ (by omega)
  have hwb:IntKind.i64.wrap (RP.1.off+1+RQ.1.off)=RP.1.off+1+RQ.1.off:=IntWalk.i64_in _ (by omega)
  clear hnr
  replace HPO:=HPQ
  obtain ⟨c0,c1,c2,c3,c4,c5,c6,c7,cf⟩:=zP HP8.out
  obtain ⟨q0,q1,q2,q3,q4,q5,q6,q7,qf⟩:=zP HQ8.out
  obtain ⟨m0,m1,m2,mf⟩:=zI HS.out
  obtain ⟨F,HFO⟩:∃ F,Hid (foundO (szs a) (obOf RQ.1 RP.1.seg (RP.1.off+1+RQ.1.off))=F):=⟨_,LH rfl⟩
  replace E0:=LH (E0.out.trans HFO.out)
  go_wp2
  refine zOB NoB [0,1,2,3,4,5,6,7,8,9] [] [0,1,3,5,8] [16] #[true,true,true,true,true,true,true,true,true,true,false,false,false,false,false,false,false,false] 8 rfl (by kernel_rfl) ?_
  refine oc3 m0 m1 m2 ?_
  refine ord_r (y:=by intro w' hg;have p0:=hg.cell q0 (fun h=>h);have p1:=hg.cell q1 (fun h=>h);have p2:=hg.cell q2 (fun h=>h);have p3:=hg.cell q3 (fun h=>h);have p4:=hg.cell q4 (fun h=>h);have p5:=hg.cell q5 (fun h=>h);have p6:=hg.cell q6 (fun h=>h);have p7:=hg.cell q7 (fun h=>h);go_simp;with_reducible rfl) (z:=?_)
  refine ord_p ?_
  refine ord_r (y:=by intro w' hg;have p:=hg.cell c6 (fun h=>h);go_simp;with_reducible rfl) (z:=?_)
  refine ord_p ?_
  refine ord_r (y:=by intro w' hg;have p:=hg.cell c1 (fun h=>h);go_simp;with_reducible rfl) (z:=?_)
  iterate 2
   refine ord_p ?_
  refine ord_r (y:=by intro w' hg;have p:=hg.cell q1 (fun h=>h);go_simp;with_reducible rfl) (z:=?_)
  refine ord_p ?_
  clear c0 c1 c2 c3 c4 c5 c6 c7 cf m0 m1 m2 mf q0 q1 q2 q3 q4 q5 q6 q7 qf
  refine zD ?_
  have hgd:=(Keep.refl NoB w5).drew
  replace HZ:=LH (Grow.heap hgd HZ.out)
  replace HG:=LH (HG.out.grow hgd)
  replace H:=LH (H.out.grow hgd)
  clear hgd
  refine zrA 10 15 #[true,true,true,true,true,true,true,true,true,true,true,false,false,false,false,false,false,false] #[true,true,true,true,true,true,true,true,true,true,false,false,false,false,false,true,false,false] (by kernel_rfl) ?_ ?_
  ·
   refine zG rfl rfl rfl rfl rfl Tryz.func226 rfl rfl [.agg RQ.1,.int .i64 RP.1.seg,.int .i64 (RP.1.off+1+RQ.1.off)] rfl ?_
   refine (show Calls Tryz.prog 226 #[.agg RQ.1,.int .i64 RP.1.seg,.int .i64 (RP.1.off+1+RQ.1.off)] _ (QObPost (obOf RQ.1 RP.1.seg (RP.1.off+1+RQ.1.off)) _) from zSB RQ.1 RP.1.seg (RP.1.off+1+RQ.1.off) _).mono ?_
   rintro e wA ⟨rfl,hg⟩
   refine ⟨_,rfl,fun _=>hg,?_⟩
   replace HZ:=LH (Grow.heap hg HZ.out)
   replace HG:=LH (HG.out.grow hg)
   replace H:=LH (H.out.grow hg)
   have hgA:=hg
   clear hg
   simp only [Act.put,pB,pC,pD]
   refine zD ?_
   refine zrA 11 15 #[true,true,true,true,true,true,true,true,true,true,true,true,false,false,false,false,false,false] #[true,true,true,true,true,true,true,true,true,true,true,false,false,false,false,true,false,false] (by kernel_rfl) ?_ ?_
   ·
    refine zG rfl rfl rfl rfl rfl Tryz.func225 rfl rfl [(.agg #[.slice A a.length c,qL,qI]),.agg (obOf RQ.1 RP.1.seg (RP.1.off+1+RQ.1.off))] rfl ?_
    refine (show Calls Tryz.prog 225 #[(.agg #[.slice A a.length c,qL,qI]),.agg (obOf RQ.1 RP.1.seg (RP.1.off+1+RQ.1.off))] _ (QFPost (foundO (szs a) (obOf RQ.1 RP.1.seg (RP.1.off+1+RQ.1.off))) _) from zIA a HA.out A c _ H.out (obOf RQ.1 RP.1.seg (RP.1.off+1+RQ.1.off)) (zyA HPO.out RP.1.seg (RP.1.off+1+RQ.1.off))).mono ?_
    rintro e wB ⟨rfl,hg⟩
    refine ⟨_,rfl,fun _=>hg,?_⟩
    rw [HFO.out]
    replace HZ:=LH (Grow.heap hg HZ.out)
    replace HG:=LH (HG.out.grow hg)
    replace H:=LH (H.out.grow hg)
    have hgB:=hg
    clear hg
    simp only [Act.put,pB,pC,pD]
    refine zD ?_
    refine zbE (n:=3) [12,13,14] [] [] #[true,true,true,true,true,true,true,true,true,true,true,true,true,true,true,false,false,false] (by kernel_rfl) ?_
    iterate 3
     refine ord_p ?_
    refine zD ?_
    refine zPA [15,16,17] [15,16,17] [] (by kernel_rfl) ?_
    refine zh rfl rfl rfl rfl ?_ ?_ ?_ ?_ ?_ ?_
    rotate_left 3
    ·go_simp;first | with_reducible rfl | (constructor <;> with_reducible rfl)
    ·simp only [Act.put,pB,pC,pD];rfl
    have hzn:=heap_alloc_new wB (.cells () 257)
    have hgn:=(Keep.refl NoB wB).alloc (.cells () 257)
    have hbn:w.heap.size+1<wB.heap.size:=by have:=(gE HZ.out).1;exact this
    obtain ⟨T,hT⟩:∃ T,wB.heap.size=T:=⟨_,rfl⟩
    generalize wB.alloc (.cells () 257)=wN at hzn hgn ⊢
    skip
    rw [hT] at hzn hbn ⊢
    clear hT
    have HT:=LH hzn
    have HB:=LH hbn
    replace HZ:=LH (Grow.heap hgn HZ.out)
    replace HG:=LH (HG.out.grow hgn)
    replace H:=LH (H.out.grow hgn)
    clear hzn hgn hbn
    have hzt:=HT.out
    obtain ⟨t0,t1,t2,t3,t4,t5,t6,tf⟩:=zC hzt
    have hbt:=HB.out
    refine zNB hzt ?_
    intro wT hkt hst
    have HGT:=LH (HG.out.trans hkt (fun j hj=>.inr (by omega)))
    have HZT:=LH ((hkt.block (w.heap.size+1) (gE HZ.out).1 (by omega)).trans HZ.out)
    have HST:=LH hst
    clear hkt hst hzt t0 t1 t2 t3 t4 t5 t6 tf
    refine ord_s ?_
    refine zD ?_
    obtain ⟨t0,t1,t2,t3,t4,t5,t6,tf⟩:=zC HST.out
    have hneT:w.heap.size+1≠T:=by have:=HB.out;omega
    have hneT2:T≠w.heap.size+1:=fun e=>hneT e.symm
    obtain ⟨y0,y1,y2,y3,y4,y5,y6,yf⟩:=zC HZT.out
    go_wp2
    refine ret7 HGT.out (Nat.le_succ _) HZT.out (fun w' z0 z1 z2 z3 z4 z5 z6 zf=>?_) rfl (fun w' hg=>⟨by rw [E0.out],hg⟩)
    rw [results_cell_tmp rfl];go_simp
   ·
    refine zh rfl rfl rfl rfl ?_ ?_ ?_ ?_ ?_ ?_
    rotate_left 3
    ·go_simp;first | with_reducible rfl | (constructor <;> with_reducible rfl)
    ·simp only [Act.put,pB,pC,pD];rfl
    have hzn:=heap_alloc_new wA (.cells () 257)
    have hgn:=(Keep.refl NoB wA).alloc (.cells () 257)
    have hbn:w.heap.size+1<wA.heap.size:=by have:=(gE HZ.out).1;exact this
    obtain ⟨T,hT⟩:∃ T,wA.heap.size=T:=⟨_,rfl⟩
    generalize wA.alloc (.cells () 257)=wN at hzn hgn ⊢
    skip
    rw [hT] at hzn hbn ⊢
    clear hT
    have HT:=LH hzn
    have HB:=LH hbn
    replace HZ:=LH (Grow.heap hgn HZ.out)
    replace HG:=LH (HG.out.grow hgn)
    replace H:=LH (H.out.grow hgn)
    clear hzn hgn hbn
    refine zD ?_
    refine zPA [11,12,13,14,16,17] [11,16,17] [] (by kernel_rfl) ?_
    refine zG rfl rfl rfl rfl rfl Tryz.func225 rfl rfl [(.agg #[.slice A a.length c,qL,qI]),.agg (obOf RQ.1 RP.1.seg (RP.1.off+1+RQ.1.off))] rfl ?_
    refine (show Calls Tryz.prog 225 #[(.agg #[.slice A a.length c,qL,qI]),.agg (obOf RQ.1 RP.1.seg (RP.1.off+1+RQ.1.off))] _ (QFPost (foundO (szs a) (obOf RQ.1 RP.1.seg (RP.1.off+1+RQ.1.off))) _) from zIA a HA.out A c _ H.out (obOf RQ.1 RP.1.seg (RP.1.off+1+RQ.1.off)) (zyA HPO.out RP.1.seg (RP.1.off+1+RQ.1.off))).mono ?_
    rintro e wB ⟨rfl,hg⟩
    refine ⟨_,rfl,fun _=>hg,?_⟩
    rw [HFO.out]
    replace HZ:=LH (Grow.heap hg HZ.out)
    replace HG:=LH (HG.out.grow hg)
    replace H:=LH (H.out.grow hg)
    have hgB:=hg
    clear hg
    simp only [Act.put,pB,pC,pD]
    replace HT:=LH (Grow.heap hgB HT.out)
    iterate 3
     refine ord_p ?_
    have hzt:=HT.out
    obtain ⟨t0,t1,t2,t3,t4,t5,t6,tf⟩:=zC hzt
    have hbt:=HB.out
    refine zNB hzt ?_
    intro wT hkt hst
    have HGT:=LH (HG.out.trans hkt (fun j hj=>.inr (by omega)))
    have HZT:=LH ((hkt.block (w.heap.size+1) (gE HZ.out).1 (by omega)).trans HZ.out)
    have HST:=LH hst
    clear hkt hst hzt t0 t1 t2 t3 t4 t5 t6 tf
    refine ord_s ?_
    refine zD ?_
    obtain ⟨t0,t1,t2,t3,t4,t5,t6,tf⟩:=zC HST.out
    have hneT:w.heap.size+1≠T:=by have:=HB.out;omega
    have hneT2:T≠w.heap.size+1:=fun e=>hneT e.symm
    obtain ⟨y0,y1,y2,y3,y4,y5,y6,yf⟩:=zC HZT.out
    go_wp2
    refine ret7 HGT.out (Nat.le_succ _) HZT.out (fun w' z0 z1 z2 z3 z4 z5 z6 zf=>?_) rfl (fun w' hg=>⟨by rw [E0.out],hg⟩)
    rw [results_cell_tmp rfl];go_simp
  ·
   refine zh rfl rfl rfl rfl ?_ ?_ ?_ ?_ ?_ ?_
   rotate_left 3
   ·go_simp;first | with_reducible rfl | (constructor <;> with_reducible rfl)
   ·simp only [Act.put,pB,pC,pD];rfl
   have hzn:=heap_alloc_new w5.drew (.cells () 257)
   have hgn:=(Keep.refl NoB w5.drew).alloc (.cells () 257)
   have hbn:w.heap.size+1<w5.drew.heap.size:=by have:=(gE HZ.out).1;exact this
   obtain ⟨T,hT⟩:∃ T,w5.heap.size=T:=⟨_,rfl⟩
   generalize w5.drew.alloc (.cells () 257)=wN at hzn hgn ⊢
   rw [show w5.drew.heap.size=w5.heap.size from rfl] at hzn hbn
   rw [hT] at hzn hbn ⊢
   clear hT
   have HT:=LH hzn
   have HB:=LH hbn
   replace HZ:=LH (Grow.heap hgn HZ.out)
   replace HG:=LH (HG.out.grow hgn)
   replace H:=LH (H.out.grow hgn)
   clear hzn hgn hbn
   refine zD ?_
   refine zPA [10,11,12,13,14,16,17] [10,11,16,17] [] (by kernel_rfl) ?_
   refine zG rfl rfl rfl rfl rfl Tryz.func226 rfl rfl [.agg RQ.1,.int .i64 RP.1.seg,.int .i64 (RP.1.off+1+RQ.1.off)] rfl ?_
   refine (show Calls Tryz.prog 226 #[.agg RQ.1,.int .i64 RP.1.seg,.int .i64 (RP.1.off+1+RQ.1.off)] _ (QObPost (obOf RQ.1 RP.1.seg (RP.1.off+1+RQ.1.off)) _) from zSB RQ.1 RP.1.seg (RP.1.off+1+RQ.1.off) _).mono ?_
   rintro e wA ⟨rfl,hg⟩
   refine ⟨_,rfl,fun _=>hg,?_⟩
   replace HZ:=LH (Grow.heap hg HZ.out)
   replace HG:=LH (HG.out.grow hg)
   replace H:=LH (H.out.grow hg)
   have hgA:=hg
   clear hg
   simp only [Act.put,pB,pC,pD]
   replace HT:=LH (Grow.heap hgA HT.out)
   refine zG rfl rfl rfl rfl rfl Tryz.func225 rfl rfl [(.agg #[.slice A a.length c,qL,qI]),.agg (obOf RQ.1 RP.1.seg (RP.1.off+1+RQ.1.off))] rfl ?_
   refine (show Calls Tryz.prog 225 #[(.agg #[.slice A a.length c,qL,qI]),.agg (obOf RQ.1 RP.1.seg (RP.1.off+1+RQ.1.off))] _ (QFPost (foundO (szs a) (obOf RQ.1 RP.1.seg (RP.1.off+1+RQ.1.off))) _) from zIA a HA.out A c _ H.out (obOf RQ.1 RP.1.seg (RP.1.off+1+RQ.1.off)) (zyA HPO.out RP.1.seg (RP.1.off+1+RQ.1.off))).mono ?_
   rintro e wB ⟨rfl,hg⟩
   refine ⟨_,rfl,fun _=>hg,?_⟩
   rw [HFO.out]
   replace HZ:=LH (Grow.heap hg HZ.out)
   replace HG:=LH (HG.out.grow hg)
   replace H:=LH (H.out.grow hg)
   have hgB:=hg
   clear hg
   simp only [Act.put,pB,pC,pD]
   replace HT:=LH (Grow.heap hgB HT.out)
   iterate 3
    refine ord_p ?_
   have hzt:=HT.out
   obtain ⟨t0,t1,t2,t3,t4,t5,t6,tf⟩:=zC hzt
   have hbt:=HB.out
   refine zNB hzt ?_
   intro wT hkt hst
   have HGT:=LH (HG.out.trans hkt (fun j hj=>.inr (by omega)))
   have HZT:=LH ((hkt.block (w.heap.size+1) (gE HZ.out).1 (by omega)).trans HZ.out)
   have HST:=LH hst
   clear hkt hst hzt t0 t1 t2 t3 t4 t5 t6 tf
   refine ord_s ?_
   refine zD ?_
   obtain ⟨t0,t1,t2,t3,t4,t5,t6,tf⟩:=zC HST.out
   have hneT:w.heap.size+1≠T:=by have:=HB.out;omega
   have hneT2:T≠w.heap.size+1:=fun e=>hneT e.symm
   obtain ⟨y0,y1,y2,y3,y4,y5,y6,yf⟩:=zC HZT.out
   go_wp2
   refine ret7 HGT.out (Nat.le_succ _) HZT.out (fun w' z0 z1 z2 z3 z4 z5 z6 zf=>?_) rfl (fun w' hg=>⟨by rw [E0.out],hg⟩)
   rw [results_cell_tmp rfl];go_simp
end Go.Proofs.YtfkcpaahdlkcdaaGreat

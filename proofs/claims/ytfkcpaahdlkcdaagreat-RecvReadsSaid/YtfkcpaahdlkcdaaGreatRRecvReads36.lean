import Derived.Test.YtfkcpaahdlkcdaaGreatRRecvReads35
set_option linter.unusedSimpArgs false
set_option linter.unusedVariables false
set_option maxRecDepth 100000
set_option maxHeartbeats 16000000
namespace Go.Proofs.YtfkcpaahdlkcdaaGreat
open Go.RowKit
theorem zwJ {g b:Nat} {rc:RC} {p:PP} {d:Par} {G:Nat→Prop} {k:KS} {Gk:Nat→Prop} {w:World} (h:RcvAt g rc b p d G k Gk w) (hph:rc.phase=1) (hkn:k.lo.n≤4096) (hkn2:k.n≤4096) (i:Nat) (hi:i<chunksN d.sz) (hgb:getB d.known i=false) (session:Int) (sum:Nat) (bs:List Int) (hb:OkB bs) (hl:(bs.length:Int)=sizeN d.sz i) (hall:chunksN d.sz≤popB (setB d.known i)) (E:Nat) (hE:E≤100) (he:∀ rc:RC,rc.ended (d.more i bs)=rc.fail E) (A2:Option Addr) (c2':Nat) (FS:Nat→Prop) (hS:Foot (SliceR 1 (.slice A2 bs.length c2') bs.length (u8s bs)) w FS) (hFS:∀ j,FS j→¬ RF g rc.st b p k j) :
    Calls Tryz.prog 110 #[.pointer (some ⟨g,0,none⟩),.agg #[qQ,.int .u64 session,.int .i64 i,.int .i64 (chunksN d.sz:Nat),.int .u32 (sum:Nat),qI,.slice A2 bs.length c2']] w fun e w'=>∃ bb,e=.returned (.slice (some ⟨bb,0,none⟩) 1 1)∧OneG w' bb 5 rc.session E 0 rc.sum∧w.heap.size≤bb∧∃ rc':RC,RCell g (rc'.fail E) w'∧rc'.st=rc.st∧Keep (RF g rc.st b p k) w w':=by
 have hg0:=(Keep.refl NoB w).alloc (.cells #[qQ,.int .u64 session,.int .i64 i,.int .i64 (chunksN d.sz:Nat),.int .u32 (sum:Nat),qI,.slice A2 bs.length c2'] 46)
 have HZ:=LH (heap_alloc_new w (.cells #[qQ,.int .u64 session,.int .i64 i,.int .i64 (chunksN d.sz:Nat),.int .u32 (sum:Nat),qI,.slice A2 bs.length c2'] 46))
 have HLT:Hid (g<w.heap.size):=LH h.cell.lt
 have H:=LH (h.grow hg0)
 have HG:=LH hg0
 have HGB:=LH hgb
 have HBB:=LH (And.intro hb hl)
 have HS:=LH (hS.grow hg0)
 have HFS:Hid (∀ j,FS j→¬ j=g∧¬ RF g rc.st b p k j):=LH (fun j hj=>⟨fun e=>hFS j hj (.inl e),hFS j hj⟩)
 have hfew:=h.pat.ok.few
 have hlen:0<bs.length∧bs.length≤64:=by
  have h1:=zM h.pat.ok.fit
  have h2:0≤d.sz.sum:=zbA h1.2.2.1
  unfold chunksN at hi
  unfold sizeN at hl
  omega
 have HBP:Hid (w.heap.size≠b∧w.heap.size≠p.wb):=LH (by have:=h.pat.lt;omega)
 clear hgb hb hl hS hFS
 have HE:=LH he
 clear he
 clear h hg0
 go_enter Tryz.func110,Tryz.ntmps110
 obtain ⟨c0,c1,c2,c3,c4,c5,c6,c7,c8,c9,c10,c11,c12,c13,c14,c15,c16,c17,c18,c19,c20,cf⟩:=zH H.out.cell
 go_wp2
 have h2:=H.out.put (rc':={ rc with closed:=false }) 20 (.bool false) rfl rfl rfl
 have HGN:Hid (¬ w.heap.size=g):=LH (fun e=>by have:=HLT.out;omega)
 replace HZ:=LH ((h2.2.block _ (gE HZ.out).1 HGN.out).trans HZ.out)
 have HK:=LH ((HG.out.mono (T:=fun k=>k=g) (fun _ h=>h.elim)).trans h2.2 (fun _ h=>.inl h))
 replace HS:=LH (HS.out.keep h2.2 (fun j hj=>(HFS.out j hj).1))
 replace H:=LH h2.1
 clear h2 HG c0 c1 c2 c3 c4 c5 c6 c7 c8 c9 c10 c11 c12 c13 c14 c15 c16 c17 c18 c19 c20 cf
 generalize (w.alloc (.cells #[qQ,.int .u64 session,.int .i64 i,.int .i64 (chunksN d.sz:Nat),.int .u32 (sum:Nat),qI,.slice A2 bs.length c2'] 46)).setCell ⟨g,20,none⟩ (.bool false)=w2 at H HZ HK HS ⊢
 obtain ⟨c0,c1,c2,c3,c4,c5,c6,c7,c8,c9,c10,c11,c12,c13,c14,c15,c16,c17,c18,c19,c20,cf⟩:=zH H.out.cell
 rw [show ({ rc with closed:=false }:RC).part=some ⟨b,0,none⟩ from H.out.part] at c0
 rw [show ({ rc with closed:=false }:RC).phase=1 from hph] at c6
 obtain ⟨z0,z1,z2,z3,z4,z5,z6,zf⟩:=zC HZ.out
 go_wp2
 refine zE [0,1,2,3,4,5,6,7,8,9,10,11,12,13,14,15,16,17,18,19,20,21,22] [19,20] [3,9,14,18] [] rfl (by kernel_rfl) ?_
 iterate 3
  refine ord_p ?_
 refine oc1 c6 ?_
 iterate 2
  refine ord_p ?_
 iterate 3
  refine zT ?_
 refine oc1G c0 ?_
 refine zT ?_
 iterate 2
  refine ord_p ?_
 refine zT ?_
 refine oc1G z3 ?_
 iterate 3
  refine zT ?_
 refine oc1G c0 ?_
 refine zBA rfl rfl rfl rfl rfl Tryz.func118 rfl rfl [.pointer (some ⟨b,0,none⟩)] rfl ?_
 refine (zpA (H.out.pat.grow (Keep.refl NoB w2).drew)).mono ?_
 rintro e w3 ⟨A4,c4',rfl,hg4,ho4⟩
 refine ⟨_,rfl,fun _=>hg4,?_⟩
 simp only [Act.put,pB,pC,pD]
 refine zBA rfl rfl rfl rfl rfl Tryz.func64 rfl rfl [.agg #[.int .u64 d.session,.slice A4 d.sz.length c4',.int .u32 (d.sum:Nat)]] rfl ?_
 refine (zg d.session d.sum A4 c4' d.sz w3 (SliceR.of_own ho4) H.out.pat.ok.fit).mono ?_
 rintro e w4 ⟨rfl,hg5⟩
 refine ⟨_,rfl,fun _=>hg5,?_⟩
 simp only [Act.put,pB,pC,pD]
 refine zT ?_
 refine ord_p ?_
 refine zD ?_
 have hgd:=((Keep.refl NoB w2).drew.grow hg4).grow hg5
 replace H:=LH (H.out.grow hgd)
 replace HK:=LH (HK.out.grow hgd)
 replace HZ:=LH (Grow.heap hgd HZ.out)
 replace HS:=LH (HS.out.grow hgd)
 clear hg4 hg5 ho4 hgd c0 c1 c2 c3 c4 c5 c6 c7 c8 c9 c10 c11 c12 c13 c14 c15 c16 c17 c18 c19 c20 cf z0 z1 z2 z3 z4 z5 z6 zf
 obtain ⟨c0,c1,c2,c3,c4,c5,c6,c7,c8,c9,c10,c11,c12,c13,c14,c15,c16,c17,c18,c19,c20,cf⟩:=zH H.out.cell
 go_wp2
 have h2:=H.out.put (rc':={ rc with closed:=false,resumed:=false }) 19 (.bool false) rfl rfl rfl
 replace HZ:=LH ((h2.2.block _ (gE HZ.out).1 HGN.out).trans HZ.out)
 replace HK:=LH (HK.out.trans h2.2 (fun _ h=>.inl h))
 replace HS:=LH (HS.out.keep h2.2 (fun j hj=>(HFS.out j hj).1))
 replace H:=LH h2.1
 clear h2 c0 c1 c2 c3 c4 c5 c6 c7 c8 c9 c10 c11 c12 c13 c14 c15 c16 c17 c18 c19 c20 cf
 generalize w4.setCell ⟨g,19,none⟩ (.bool false)=w5 at H HZ HK HS ⊢
 obtain ⟨c0,c1,c2,c3,c4,c5,c6,c7,c8,c9,c10,c11,c12,c13,c14,c15,c16,c17,c18,c19,c20,cf⟩:=zH H.out.cell
 obtain ⟨z0,z1,z2,z3,z4,z5,z6,zf⟩:=zC HZ.out
 rw [show ({ rc with closed:=false,resumed:=false }:RC).part=some ⟨b,0,none⟩ from H.out.part] at c0
 refine zE [0,1,2,3,5,6,4,7,8] [4,7,8] [3,6] [] rfl (by kernel_rfl) ?_
 iterate 3
  refine ord_p ?_
 refine oc1 c0 ?_
 refine ord_p ?_
 refine oc1 z2 ?_
 refine zG rfl rfl rfl rfl rfl Tryz.func117 rfl rfl [.pointer (some ⟨b,0,none⟩)] rfl ?_
 refine (zwA (H.out.pat.grow (Keep.refl NoB w5).drew)).mono ?_
 rintro e w6 ⟨A6,c6',rfl,hg6,ho6⟩
 refine ⟨_,rfl,fun _=>hg6,?_⟩
 simp only [Act.put,pB,pC,pD]
 refine zG rfl rfl rfl rfl rfl Tryz.func82 rfl rfl [.slice A6 d.known.length c6',.int .i64 i] rfl ?_
 refine (zhA A6 c6' d.known H.out.pat.ok.known i (by have:=H.out.pat.ok.few;omega) w6 (SliceR.of_own ho6)).mono ?_
 rintro e w7 ⟨rfl,rfl⟩
 refine ⟨_,rfl,fun _=>Keep.refl _ _,?_⟩
 simp only [Act.put,pB,pC,pD]
 rw [HGB.out]
 refine ord_s ?_
 refine zD ?_
 have hgd:=(Keep.refl NoB w5).drew.grow hg6
 replace H:=LH (H.out.grow hgd)
 replace HK:=LH (HK.out.grow hgd)
 replace HZ:=LH (Grow.heap hgd HZ.out)
 replace HS:=LH (HS.out.grow hgd)
 clear hg6 ho6 hgd c0 c1 c2 c3 c4 c5 c6 c7 c8 c9 c10 c11 c12 c13 c14 c15 c16 c17 c18 c19 c20 cf z0 z1 z2 z3 z4 z5 z6 zf
 obtain ⟨c0,c1,c2,c3,c4,c5,c6,c7,c8,c9,c10,c11,c12,c13,c14,c15,c16,c17,c18,c19,c20,cf⟩:=zH H.out.cell
 obtain ⟨z0,z1,z2,z3,z4,z5,z6,zf⟩:=zC HZ.out
 rw [show ({ rc with closed:=false,resumed:=false }:RC).part=some ⟨b,0,none⟩ from H.out.part] at c0
 go_wp2
 refine zE [0,1,2,3,4,5,6,7,8,9] [8] [3,5,7] [8] rfl (by kernel_rfl) ?_
 iterate 3
  refine ord_p ?_
 refine oc1 c0 ?_
 refine ord_p ?_
 refine oc1 z2 ?_
 refine ord_p ?_
 refine oc1 z6 ?_
 refine zG rfl rfl rfl rfl rfl Tryz.func106 rfl rfl [.pointer (some ⟨b,0,none⟩),.int .i64 i,.slice A2 bs.length c2'] rfl ?_
 refine (zmD (H.out.pat.grow (Keep.refl NoB w6).drew) i hi HGB.out A2 c2' bs HBB.out.1 HBB.out.2 FS (HS.out.grow (Keep.refl NoB w6).drew) (fun j hj e=>(HFS.out j hj).2 (.inr (.inr (.inl e))))).mono ?_
 rintro e w8 ⟨rfl,p',G',hwb,hP',hk8,hG'⟩
 refine ⟨_,rfl,fun h=>absurd (by simp) h,?_⟩
 simp only [Act.put,pB,pC,pD]
 refine ord_p ?_
 refine zD ?_
 have hHn:=(H.out.grow (Keep.refl NoB w6).drew).morePart (d':=d.more i bs) hwb hP' hk8 hG'
 have HGP:Hid (∀ j,G' j→G j∨w.heap.size≤j):=LH (fun j hj=>(hG' j hj).imp id (fun h=>Nat.le_trans HK.out.size h))
 replace HS:=LH ((HS.out.grow (Keep.refl NoB w6).drew).keep hk8 (fun j hj e=>(HFS.out j hj).2 (.inr (e.imp id .inl))))
 have hzn:=HGN.out
 have HWB:=LH (show w.heap.size≠b∧w.heap.size≠p.wb from HBP.out)
 replace HZ:=LH ((hk8.block w.heap.size (gE (show w6.drew.heap[w.heap.size]? = _ from HZ.out)).1 (fun e=>e.elim HWB.out.1 HWB.out.2)).trans (show w6.drew.heap[w.heap.size]? = _ from HZ.out))
 replace HK:=LH ((HK.out.drew.mono (T:=RF g rc.st b p k) (fun _ h=>.inl h)).trans hk8 (fun j hj=>.inl (.inr (hj.imp id .inl))))
 have HWB2:=LH hwb
 replace H:=LH hHn
 clear hHn hzn hwb hP' hk8 hG' c0 c1 c2 c3 c4 c5 c6 c7 c8 c9 c10 c11 c12 c13 c14 c15 c16 c17 c18 c19 c20 cf z0 z1 z2 z3 z4 z5 z6 zf
 obtain ⟨c0,c1,c2,c3,c4,c5,c6,c7,c8,c9,c10,c11,c12,c13,c14,c15,c16,c17,c18,c19,c20,cf⟩:=zH H.out.cell
 obtain ⟨z0,z1,z2,z3,z4,z5,z6,zf⟩:=zC HZ.out
 go_wp2
 refine zE [0,1,2,3,4,5,6,7,8] [8] [3,5,7] [8] rfl (by kernel_rfl) ?_
 iterate 3
  refine ord_p ?_
 refine oc1 c5 ?_
 refine ord_p ?_
 refine oc1 z2 ?_
 refine ord_p ?_
 refine oc1 z6 ?_
 refine zG rfl rfl rfl rfl rfl Tryz.func182 rfl rfl [.pointer (some ⟨rc.st,0,none⟩),.int .i64 i,.slice A2 bs.length c2'] rfl ?_
 refine (zVC (s:=rc.st) (H.out.kat.grow (Keep.refl NoB w8).drew) hkn hkn2 i (by omega) A2 bs c2' hlen.2 hlen.1 (HS.out.grow (Keep.refl NoB w8).drew).now).mono ?_
 rintro e w9 ⟨rfl,x,A9,c9',hxb,hK9,hk9,hx9,hlo9⟩
 refine ⟨_,rfl,fun h=>absurd (by simp) h,?_⟩
 simp only [Act.put,pB,pC,pD]
 refine zD ?_
 have hdz:w8.drew.heap.size=w8.heap.size:=rfl
 have hHn:=(H.out.grow (Keep.refl NoB w8).drew).moreStore (k':=(k.put i x).step A9 c9') hK9 hk9 (fun j hj=>by
  rcases hj with e | e | e
  ·exact .inl (.inl e)
  ·exact .inl (.inr (.inl e))
  ·exact (hlo9 j e).imp (fun h=>.inr (.inr h)) id) (fun j hj=>hj.imp id (fun e=>by rw [e];exact hx9))
 have HRF:Hid (∀ j,(RF g rc.st b p' ((k.put i x).step A9 c9') j∨G' j∨(Gk j∨j=x.b))→(RF g rc.st b p k j∨G j∨Gk j)∨w.heap.size≤j):=LH (fun j hj=>by
  rcases hj with (e | e | e | e | e | e) | e | e | e
  ·exact .inl (.inl (.inl e))
  ·exact .inl (.inl (.inr (.inl e)))
  ·rw [HWB2.out] at e;exact .inl (.inl (.inr (.inr (.inl e))))
  ·exact .inl (.inl (.inr (.inr (.inr (.inl e)))))
  ·exact .inl (.inl (.inr (.inr (.inr (.inr (.inl e))))))
  ·rcases hlo9 j e with h | h
   ·exact .inl (.inl (.inr (.inr (.inr (.inr (.inr h))))))
   ·exact .inr (by have:=HK.out.size;omega)
  ·exact (HGP.out j e).imp (fun h=>.inr (.inl h)) id
  ·exact .inl (.inr (.inr e))
  ·exact .inr (by have:=HK.out.size;omega))
 replace HK:=LH (HK.out.drew.trans hk9 (fun j hj=>.inl (.inr (.inr (.inr hj)))))
 have HKN:Hid (((k.put i x).step A9 c9').lo.n=k.lo.n+1∧((k.put i x).step A9 c9').n=k.n+1∧((k.put i x).step A9 c9').nt=k.nt):=LH ⟨rfl,rfl,rfl⟩
 obtain ⟨k',hk'⟩:∃ k',(k.put i x).step A9 c9'=k':=⟨_,rfl⟩
 rw [hk'] at hHn HRF HKN
 obtain ⟨Gk',hGk'⟩:∃ Gk':Nat→Prop,(fun j=>Gk j∨j=x.b)=Gk':=⟨_,rfl⟩
 rw [hGk'] at hHn
 rw [show (∀ j,(RF g rc.st b p' k' j∨G' j∨(Gk j∨j=x.b))→(RF g rc.st b p k j∨G j∨Gk j)∨w.heap.size≤j)=(∀ j,(RF g rc.st b p' k' j∨G' j∨Gk' j)→(RF g rc.st b p k j∨G j∨Gk j)∨w.heap.size≤j) from by rw [← hGk']] at HRF
 replace H:=LH hHn
 clear hHn hk' hGk' hxb hK9 hk9 hx9 hlo9 hdz HZ HS c0 c1 c2 c3 c4 c5 c6 c7 c8 c9 c10 c11 c12 c13 c14 c15 c16 c17 c18 c19 c20 cf z0 z1 z2 z3 z4 z5 z6 zf
 go_wp2_with fail
 refine (zIE H.out.cell H.out.part H.out.pat hall).mono ?_
 rintro e w10 ⟨⟨v,rfl⟩,hR,hkg⟩
 rw [HE.out] at hR
 replace HK:=LH (HK.out.trans hkg (fun j hj=>.inl (.inl hj)))
 have HR:=LH hR
 clear hR hkg H
 have c6:w10.cell? ⟨g,6,none⟩=some (.int .i64 3):=World.news_of_block HR.out 6 _ rfl
 have c7:w10.cell? ⟨g,7,none⟩=some (.int .u16 (E:Nat)):=World.news_of_block HR.out 7 _ rfl
 have hcv:(E:Int)≤65535:=by omega
 go_wp2_with fail
 refine (zhD HR.out 5 E).mono ?_
 rintro ee w11 ⟨rfl,hg⟩
 replace HK:=LH (HK.out.grow hg)
 replace HR:=LH (HR.out.grow hg)
 clear hg c6 c7
 go_wp2
 go_ret
 have hsz:=HK.out.size
 exact ⟨_,rfl,heap_alloc_new w11 _,hsz,_,HR.out.grow ((Keep.refl NoB w11).alloc _),rfl,HK.out.grow ((Keep.refl NoB w11).alloc _)⟩
theorem zhI {x:RX} (hx:x.Ok) (i:Nat) (hi:i<x.Q):((chunkP x.a i).length:Int)=sizeN (szs x.a) i:=by
 have hs:=hx.small
 rw [zKE _ hx.a]
 unfold sizeN
 rw [← hs.2.2.2.2.2.1]
 omega
theorem zwB {x:RX} (hx:x.Ok) {kb:List Int} (hk:BitsOk kb x.Q) (i:Nat) (hi:i<x.Q):(parD x kb).more i (chunkP x.a i)=parD x (setB kb i):=by
 unfold parD Par.more
 simp only
 rw [zdI _ hx.a kb i (by rw [hk.len];omega)]
theorem zOD {x:RX} (hx:x.Ok) {kb:List Int} (hk:BitsOk kb x.Q) (hal:x.Q≤popB kb) (rc:RC):rc.ended (parD x kb)=if x.m=sumP x.s x.a then (if checkP x.a=0 then { rc with phase:=2 } else rc.fail (checkP x.a)) else rc.fail 12:=by
 have hw:wordsK x.a.flatten kb=x.a.flatten:=zLE (fun i hi=>hk.full.1 hal i (by rw [hx.small.2.2.2.2.2.2];exact hi))
 unfold RC.ended parD
 simp only
 rw [hw,zjD]
theorem Rv1.again {x:RX} {g st:Nat} {rc rc':RC} {b:Nat} {p:PP} {kb:List Int} {G:Nat→Prop} {k:KS} {Gk F:Nat→Prop} {w w':World} (h1:Rv1 x g st rc b p kb G k Gk F w) (hr:RCell g rc' w') (hk:Keep (fun j=>j=g) w w') (e1:rc'.st=rc.st) (e2:rc'.quota=rc.quota) (e3:rc'.part=rc.part) (e4:rc'.session=rc.session) (e5:rc'.sum=rc.sum) (e6:rc'.err=rc.err):Rv1 x g st rc' b p kb G k Gk F w':=by
 have hgb:=h1.at_.gb
 have hkf:=h1.at_.kf
 refine ⟨⟨hr,e3.trans h1.at_.part,h1.at_.pat.keep hk (fun e=>hgb.1 e.symm) (fun e=>hgb.2.1 e.symm) (fun j hj e=>hgb.2.2.1 (by rw [← e];exact hj)),?_,?_,?_,h1.at_.kg⟩,e1.trans h1.st,e2.trans h1.quota,e4.trans h1.s,e5.trans h1.m,e6.trans h1.err,h1.ok,h1.lo,h1.n,h1.f1,h1.f2,h1.f3⟩
 ·rw [e1];exact h1.at_.kat.keep hk (fun j hj e=>hgb.2.2.2.1 (by rw [← e];exact hj)) (fun j hj e=>hgb.2.2.2.2 (by rw [← e];exact hj))
 ·rw [e1];exact hgb
 ·rw [e1];exact hkf
theorem zxL {x : RX} (hx : x.Ok) {g st : Nat} {F : Nat → Prop} {w : World} (hF : ∀ j, F j → j < w.heap.size) (i : Nat) (hi : i < x.Q) (A2 : Option Addr) (c2 : Nat) {FS : Nat → Prop} (hS : Foot (SliceR 1 (.slice A2 (chunkP x.a i).length c2) (chunkP x.a i).length (u8s (chunkP x.a i))) w FS) (hFS : ∀ j, FS j → ¬ F j) {s : RSt} (h : RvI x g st s F w) :
    Calls Tryz.prog 39 #[.pointer (some ⟨g,0,none⟩),.agg #[qQ,.int .u64 x.s,.int .i64 i,.int .i64 x.Q,.int .u32 (x.m:Nat),qI,.slice A2 (chunkP x.a i).length c2]] w fun e w'=>∃ v,e=.returned v∧RvStep x g st (datS x s i) (datK x s i) F w v w':=by
 have hI:=h
 cases s with
 | idle =>
  obtain ⟨rc,k,Gk,h0,hp⟩:=h
  refine (zeI h0.cell x.s i x.Q x.m none A2 0 0 (chunkP x.a i).length c2 hp).mono ?_
  rintro e w' ⟨b,rfl,hO,hb,hg⟩
  exact ⟨_,rfl,⟨b,_,_,_,rfl,hO,hb⟩,F,hI.grow hg,hg.mono (fun _ h=>h.elim),fun j hj=>.inl hj,fun j hj=>Nat.lt_of_lt_of_le (hF j hj) hg.size⟩
 | hear hs =>
  obtain ⟨rc,k,Gk,G,h0,hp,hof,hs_,hm_,hH0,hgG,hG0,hh0,hal⟩:=h
  refine zZC h0.cell _ _ _ _ _ _ _ _ _ _ (fun v w'=>RvStep x g st (datS x (.hear hs) i) (datK x (.hear hs) i) F w v w') (by rw [hp];decide) (by rw [hp];decide) hs_.symm hm_.symm (fun w1 hg1=>?_)
  have h1:=h0.keep hg1 (fun _ _ h=>h)
  refine (zbI h1.cell hp h1.part x.s i x.Q x.m A2 (chunkP x.a i).length c2).mono ?_
  rintro e w' ⟨rfl,hr,hk⟩
  have hk2:=(hg1.mono (T:=fun j=>j=g) (fun _ h=>h.elim)).trans hk (fun j e=>.inl e)
  exact ⟨_,rfl,rfl,F,⟨_,k,Gk,G,h0.again hk2 hr rfl rfl rfl rfl (fun j hj=>hj),hp,hof,hs_,hm_,hH0.keep hk2 (fun j hj e=>hgG (by rw [← e];exact hj)),hgG,hG0,hh0,hal⟩,hk2.mono (fun j e=>by rw [e];exact h0.fg),fun j hj=>.inl hj,fun j hj=>Nat.lt_of_lt_of_le (hF j hj) hk2.size⟩
 | ready =>
  obtain ⟨rc,b,p,kb,G,k,Gk,h1,hp,hal⟩:=h
  refine zZC h1.at_.cell _ _ _ _ _ _ _ _ _ _ (fun v w'=>RvStep x g st (datS x .ready i) (datK x .ready i) F w v w') (by rw [hp];decide) (by rw [hp];decide) h1.s.symm h1.m.symm (fun w1 hg1=>?_)
  have h2:=h1.keep hg1 (fun _ _ h=>h)
  refine (zcI h2.at_.cell hp x.s i x.Q x.m A2 (chunkP x.a i).length c2).mono ?_
  rintro e w' ⟨rfl,hr,hk⟩
  have hk2:=(hg1.mono (T:=fun j=>j=g) (fun _ h=>h.elim)).trans hk (fun j e=>.inl e)
  exact ⟨_,rfl,rfl,F,⟨_,b,p,kb,G,k,Gk,h2.again hr hk rfl rfl rfl rfl rfl rfl,hp,hal⟩,hk2.mono (fun j e=>by rw [e];exact h1.f1 g (.inl rfl)),fun j hj=>.inl hj,fun j hj=>Nat.lt_of_lt_of_le (hF j hj) hk2.size⟩
 | fail e =>
  obtain ⟨rc,h0,_⟩:=h
  refine (zMD h0 x.s i x.Q x.m none A2 0 0 (chunkP x.a i).length c2 rfl 2).mono ?_
  rintro e w' ⟨rfl,hg⟩
  exact ⟨_,rfl,RvStep.same hI hF hg⟩
 | part kb =>
  obtain ⟨rc,b,p,G,k,Gk,h1,hp,hno⟩:=h
  refine zZC h1.at_.cell _ _ _ _ _ _ _ _ _ _ (fun v w'=>RvStep x g st (datS x (.part kb) i) (datK x (.part kb) i) F w v w') (by rw [hp];decide) (by rw [hp];decide) h1.s.symm h1.m.symm (fun w1 hg1=>?_)
  have h2:=h1.keep hg1 (fun _ _ h=>h)
  have hF1:∀ j,F j→j<w1.heap.size:=fun j hj=>Nat.lt_of_lt_of_le (hF j hj) hg1.size
  have hS1:=hS.grow hg1
  have hw1:=hg1.size
  have hsz:=zhI hx i hi
  have hokb:=zMJ x.a i
  have hfew:=h1.ok.pop_le
  have hQ:=hx.small
  have hbad:∀ (E:Nat),E≤100→E≠0→E≠31→getB kb i=false→x.Q≤popB (setB kb i)→(∀ rc:RC,rc.ended (parD x (setB kb i))=rc.fail E)→datS x (.part kb) i=.fail E →
      Calls Tryz.prog 110 #[.pointer (some ⟨g,0,none⟩),.agg #[qQ,.int .u64 x.s,.int .i64 i,.int .i64 x.Q,.int .u32 (x.m:Nat),qI,.slice A2 (chunkP x.a i).length c2]] w1 fun e w'=>∃ v,e=.returned v∧RvStep x g st (datS x (.part kb) i) (datK x (.part kb) i) F w v w':=fun E hE hE0 hE31 hgb hal he hd=>by
   refine (zwJ (d:=parD x kb) h2.at_ hp (by rw [h1.lo];omega) (by rw [h1.n];omega) i hi hgb x.s x.m (chunkP x.a i) hokb hsz hal E hE (by rw [zwB hx h1.ok i hi];exact he) A2 c2 FS hS1 (fun j hj e=>hFS j hj (h1.f1 j (by rw [← h1.st];exact e)))).mono ?_
   rintro e w' ⟨bb,rfl,hO,hbb,rc',hr,hst,hk⟩
   have hk2:=(hg1.mono (T:=F) (fun _ h=>h.elim)).trans hk (fun j e=>.inl (h1.f1 j (by rw [← h1.st];exact e)))
   refine ⟨_,rfl,?_,F,?_,hk2,fun j hj=>.inl hj,fun j hj=>Nat.lt_of_lt_of_le (hF j hj) hk2.size⟩
   ·show RvOut (failK (datS x (.part kb) i)) _ _ _
    rw [hd]
    exact ⟨bb,_,_,_,rfl,hO,Nat.le_trans hw1 hbb⟩
   ·rw [hd]
    exact ⟨rc',hr,hst.trans h1.st,h1.f1 g (.inl rfl),hE0,fun e=>absurd e hE31⟩
  cases hgb:getB kb i with
  | true =>
   refine (ztJ (d:=parD x kb) h2.at_ hp i hi hgb hno x.s x.m A2 (chunkP x.a i).length c2 hsz).mono ?_
   rintro e w' ⟨rfl,hr,hk⟩
   have hk2:=(hg1.mono (T:=fun j=>j=g) (fun _ h=>h.elim)).trans hk (fun j e=>.inl e)
   have hd:datS x (.part kb) i=.part kb:=by simp [datS,hgb]
   refine ⟨_,rfl,by show RvOut (failK (datS x (.part kb) i)) _ _ _;rw [hd];rfl,F,by rw [hd];exact ⟨_,b,p,G,k,Gk,h2.again hr.cell hk rfl rfl rfl rfl rfl rfl,hp,hno⟩,hk2.mono (fun j e=>by rw [e];exact h1.f1 g (.inl rfl)),fun j hj=>.inl hj,fun j hj=>Nat.lt_of_lt_of_le (hF j hj) hk2.size⟩
  | false =>
   have hbo:=h1.ok.set hi
   have hpop:=hbo.pop_le
   have hkl : popB (setB kb i) = popB kb + 1 := by
    rw [hbo.pop,h1.ok.pop]
    have hp1 : ∀ n, i < n → n ≤ x.Q → ((List.range n).filter (getB (setB kb i))).length = ((List.range n).filter (getB kb)).length + 1 := by
     intro n
     induction n with
     | zero=>intro h;omega
     | succ n ih =>
      intro hin hnq
      rw [List.range_succ,List.filter_append,List.filter_append,List.length_append,List.length_append]
      by_cases e:i=n
      ·subst e
       have e0:(List.range i).filter (getB (setB kb i))=(List.range i).filter (getB kb):=by
        apply List.filter_congr
        intro j hj
        have hji:=List.mem_range.1 hj
        rw [zXB,decide_eq_false (by omega),Bool.false_or]
       have e1:getB (setB kb i) i=true:=by
        rw [zXB,decide_eq_true ⟨rfl,by rw [h1.ok.len];omega⟩,Bool.true_or]
       rw [e0]
       simp [e1,hgb]
      ·have e2:getB (setB kb i) n=getB kb n:=by
         rw [zXB,decide_eq_false (by omega),Bool.false_or]
       have e3:[n].filter (getB (setB kb i))=[n].filter (getB kb):=by simp [List.filter_cons,e2]
       rw [ih (by omega) (by omega),e3]
       omega
    exact hp1 x.Q hi (Nat.le_refl _)
   by_cases hlt:popB (setB kb i)<x.Q
   ·refine (zPL (d:=parD x kb) h2.at_ hp (by rw [h1.lo];omega) (by rw [h1.n];omega) i hi hgb x.s x.m (chunkP x.a i) hokb hsz hlt A2 c2 FS hS1 (fun j hj e=>hFS j hj (h1.f1 j (by rw [← h1.st];exact e)))).mono ?_
    rintro e w' ⟨rfl,p',G',k',Gk',hr,hk,hwb,hlo,hn,hnt,hff⟩
    have hk2:=(hg1.mono (T:=F) (fun _ h=>h.elim)).trans hk (fun j e=>.inl (h1.f1 j (by rw [← h1.st];exact e)))
    have hd:datS x (.part kb) i=.part (setB kb i):=by simp [datS,hgb,hlt]
    have hsm:=hr.small
    rw [zwB hx h1.ok i hi] at hr
    rw [h1.st] at hff
    refine ⟨_,rfl,by show RvOut (failK (datS x (.part kb) i)) _ _ _;rw [hd];rfl,fun j=>RF g st b p' k' j∨G' j∨Gk' j,by rw [hd];exact ⟨_,b,p',G',k',Gk',⟨hr,h1.st,h1.quota,h1.s,h1.m,h1.err,hbo,by rw [hlo,h1.lo,hkl];omega,by rw [hn,h1.n,hkl],fun j hj=>.inl hj,fun j hj=>.inr (.inl hj),fun j hj=>.inr (.inr hj)⟩,hp,hlt⟩,hk2,fun j hj=>?_,fun j hj=>?_⟩
    ·rcases hff j hj with (e | e | e) | e
     ·exact .inl (h1.f1 j e)
     ·exact .inl (h1.f2 j e)
     ·exact .inl (h1.f3 j e)
     ·exact .inr (Nat.le_trans hw1 e)
    ·rcases hj with e | e | e
     ·exact hsm.1 j (by rw [show ({ rc with closed:=false,resumed:=false }:RC).st=st from h1.st];exact e)
     ·exact hsm.2.1 j e
     ·exact hsm.2.2 j e
   ·have hge:x.Q≤popB (setB kb i):=by omega
    have hd0:datS x (.part kb) i=endS x:=by simp [datS,hgb,hlt]
    by_cases hm:x.m=sumP x.s x.a
    case neg =>
     exact hbad 12 (by decide) (by decide) (by decide) hgb hge (fun rc=>by rw [zOD hx hbo hge,if_neg hm];rfl) (by rw [hd0,endS,if_neg hm])
    by_cases hc:checkP x.a=0
    case neg =>
     have hci:=zEF x.a
     exact hbad (checkP x.a).toNat (by omega) (by omega) (by omega) hgb hge (fun rc=>by rw [zOD hx hbo hge,if_pos hm,if_neg hc,show (((checkP x.a).toNat:Nat):Int)=checkP x.a from by omega]) (by rw [hd0,endS,if_pos hm,if_neg hc])
    have hd:datS x (.part kb) i=.ready:=by rw [hd0,endS,if_pos hm,if_pos hc]
    refine (zQL (d:=parD x kb) h2.at_ hp (by rw [h1.lo];omega) (by rw [h1.n];omega) i hi hgb x.s x.m (chunkP x.a i) hokb hsz hge (fun rc=>by rw [zwB hx h1.ok i hi,zOD hx hbo hge,if_pos hm,if_pos hc]) A2 c2 FS hS1 (fun j hj e=>hFS j hj (h1.f1 j (by rw [← h1.st];exact e)))).mono ?_
    rintro e w' ⟨rfl,p',G',k',Gk',hr,hk,hwb,hlo,hn,hnt,hff⟩
    have hk2:=(hg1.mono (T:=F) (fun _ h=>h.elim)).trans hk (fun j e=>.inl (h1.f1 j (by rw [← h1.st];exact e)))
    have hsm:=hr.small
    rw [zwB hx h1.ok i hi] at hr
    rw [h1.st] at hff
    refine ⟨_,rfl,by show RvOut (failK (datS x (.part kb) i)) _ _ _;rw [hd];rfl,fun j=>RF g st b p' k' j∨G' j∨Gk' j,by rw [hd];exact ⟨_,b,p',setB kb i,G',k',Gk',⟨hr,h1.st,h1.quota,h1.s,h1.m,h1.err,hbo,by rw [hlo,h1.lo,hkl];omega,by rw [hn,h1.n,hkl],fun j hj=>.inl hj,fun j hj=>.inr (.inl hj),fun j hj=>.inr (.inr hj)⟩,rfl,hbo.full.1 hge,hc⟩,hk2,fun j hj=>?_,fun j hj=>?_⟩
    ·rcases hff j hj with (e | e | e) | e
     ·exact .inl (h1.f1 j e)
     ·exact .inl (h1.f2 j e)
     ·exact .inl (h1.f3 j e)
     ·exact .inr (Nat.le_trans hw1 e)
    ·rcases hj with e | e | e
     ·exact hsm.1 j (by rw [show ({ rc with closed:=false,resumed:=false,phase:=2 }:RC).st=st from h1.st];exact e)
     ·exact hsm.2.1 j e
     ·exact hsm.2.2 j e
def NextS (x:RX) (s s':RSt) (kd:Option Int):Prop:=(∃ j,j<x.P∧s'=offS x s j∧kd=offK x s j)∨(∃ i,i<x.Q∧s'=datS x s i∧kd=datK x s i)
theorem NextS.q {x:RX} {s s':RSt} {kd:Option Int} (h:NextS x s s' kd) (hq:QOk x s):QOk x s':=by
 rcases h with ⟨j,_,rfl,_⟩ | ⟨i,_,rfl,_⟩
 ·exact zJM hq j
 ·exact zKM hq i
theorem zxJ {x:RX} (hx:x.Ok) {ad:Addr} {cm c:Nat} {w w':World} {e:Ending} (hG:GramPost x ad cm c w e w') {FS:Nat→Prop} (hS:Foot (SliceR 1 (.slice (some ad) (szs x.a).length cm) (szs x.a).length (ints (szs x.a))) w FS) :
    ∃ gv,e=.returned gv∧Grow w w'∧∀ {g st:Nat} {s:RSt} {F:Nat→Prop},RvI x g st s F w→(∀ j,F j→j<w.heap.size)→(∀ j,FS j→¬ F j) →
     Calls Tryz.prog 39 #[.pointer (some ⟨g,0,none⟩),gv] w' fun e2 w2=>∃ v,e2=.returned v∧∃ s' kd,NextS x s s' kd∧RvStep x g st s' kd F w' v w2:=by
 have hsx:=hx.small
 obtain ⟨hg,hc⟩:=hG
 have hs:=hg.size
 rcases hc with ⟨_,rfl⟩ | ⟨_,A2,c2,rfl,hF2⟩
 ·have hj:c%16%x.P<x.P:=Nat.mod_lt _ (by omega)
  have hpl:(pageP (szs x.a) (c%16%x.P)).length=min 4 ((szs x.a).length-4*(c%16%x.P)):=by rw [zDB,List.length_take,List.length_drop]
  have hP:x.P=((szs x.a).length+3)/4:=rfl
  refine ⟨_,rfl,hg,fun {g st s F} hI hF hd=>?_⟩
  refine (zNL hx (fun j hj=>Nat.lt_of_lt_of_le (hF j hj) hs) (c%16%x.P) hj (some (ad.add (4*(c%16%x.P)))) (cm-4*(c%16%x.P)) ((hS.grow hg).imp (fun u hu=>?_)) hd (hI.grow hg)).mono ?_
  ·have h9:=hu.sub (4*(c%16%x.P)) (pageP (szs x.a) (c%16%x.P)).length (by omega)
   have e9:((szs x.a).drop (4*(c%16%x.P))).take (pageP (szs x.a) (c%16%x.P)).length=pageP (szs x.a) (c%16%x.P):=by
    rw [hpl,zDB]
    rcases Nat.le_total 4 ((szs x.a).length-4*(c%16%x.P)) with h | h
    ·rw [Nat.min_eq_left h]
    ·rw [Nat.min_eq_right h,List.take_of_length_le (by rw [List.length_drop];exact Nat.le_refl _),List.take_of_length_le (by rw [List.length_drop];exact h)]
   rw [e9] at h9
   exact h9
  ·rintro e2 w2 ⟨v,rfl,hst⟩
   exact ⟨v,rfl,_,_,.inl ⟨_,hj,rfl,rfl⟩,hst⟩
 ·have hi:c%16%x.Q<x.Q:=Nat.mod_lt _ (by omega)
  refine ⟨_,rfl,hg,fun {g st s F} hI hF hd=>?_⟩
  refine (zxL hx (fun j hj=>Nat.lt_of_lt_of_le (hF j hj) hs) (c%16%x.Q) hi A2 c2 hF2 (fun j hj e=>by have:=hF j e;omega) (hI.grow hg)).mono ?_
  rintro e2 w2 ⟨v,rfl,hst⟩
  exact ⟨v,rfl,_,_,.inr ⟨_,hi,rfl,rfl⟩,hst⟩
structure Vw where
 kind:Int
 size:Int
 words:Int
 kids:Int
 word:Int
instance : Coe Vw (Array Value) := ⟨fun o => #[.int .i64 o.kind,.int .i64 o.size,.int .i64 o.words,.int .i64 o.kids,.int .u64 o.word]⟩
def Vw.v (x:Vw):Value:=.agg x
def vw0:Vw:=⟨0,0,0,0,0⟩
def isW (o:Ob):Vw:=⟨o.kind,o.size,if o.kind=2∧o.size≠6 then o.count else o.data,if o.kind=2∧o.size=6 then o.count else o.ptrs,0⟩
theorem zLM (o:Ob):isV o=(isW o).v:=rfl
def goP (sz:List Int) (wd:Int→Int→Int×Int):List Int→Ob→Int→Ob×Int
 | [],o,left=>(o,errP (payP left o))
 | k :: ks,o,left=>if payP left o<0 then (o,22) else if (stepP sz wd o k).2=0 then goP sz wd ks (stepP sz wd o k).1 (payP left o) else (o,(stepP sz wd o k).2)
def endP (wd:Int→Int→Int×Int) (o:Ob) (at_:Int):Vw×Int :=
 if at_<0 then (isW o,0) else if (wordP wd o at_).2=0 then (⟨o.kind,0,0,0,(wordP wd o at_).1⟩,0) else (vw0,(wordP wd o at_).2)
def walkP (sz:List Int) (wd:Int→Int→Int×Int) (st:List Int) (at_ cost:Int):Vw×Int :=
 if (followP sz wd 0 0).2=0 then if (goP sz wd st (followP sz wd 0 0).1 cost).2=0 then endP wd (goP sz wd st (followP sz wd 0 0).1 cost).1 at_ else (vw0,(goP sz wd st (followP sz wd 0 0).1 cost).2) else (vw0,(followP sz wd 0 0).2)
def ExtW (wd wd':Int→Int→Int×Int):Prop:=∀ s x,(wd s x).2=30∨wd' s x=wd s x
theorem zFF {wd wd':Int→Int→Int×Int} (h:ExtW wd wd') (s x:Int):(ptrAt wd s x).2=30∨ptrAt wd' s x=ptrAt wd s x:=by
 rcases h s x with h1 | h1
 ·exact .inl (by unfold ptrAt;rw [if_neg (by omega)];exact h1)
 ·exact .inr (by unfold ptrAt;rw [h1])
theorem zIC {wd wd':Int→Int→Int×Int} (h:ExtW wd wd') (sz:List Int) (s x:Int):(followP sz wd s x).2=30∨followP sz wd' s x=followP sz wd s x:=by
 rcases zFF h s x with h1 | h1
 ·exact .inl (by unfold followP;rw [if_neg (by omega)];exact h1)
 unfold followP
 rw [h1]
 split
 ·split
  ·exact .inr rfl
  ·split
   ·generalize (ptrAt wd s x).1=p
    unfold twiceP
    rcases h p.seg p.off with h2 | h2
    ·exact .inl (by rw [if_neg (by omega)];exact h2)
    rw [h2]
    split
    ·rcases h p.seg (p.off+1) with h3 | h3
     ·exact .inl (by rw [if_neg (by omega)];exact h3)
     rw [h3]
     exact .inr rfl
    ·exact .inr rfl
   ·generalize (ptrAt wd s x).1=p
    unfold landedP
    rcases zFF h p.seg p.off with h2 | h2
    ·exact .inl (by rw [if_neg (by omega)];exact h2)
    rw [h2]
    exact .inr rfl
 ·exact .inr rfl
theorem zzJ {wd wd':Int→Int→Int×Int} (h:ExtW wd wd') (sz:List Int) (o:Ob) (k:Int):(stepP sz wd o k).2=30∨stepP sz wd' o k=stepP sz wd o k:=by
 unfold stepP
 split
 ·exact .inr rfl
 split
 ·exact zIC h sz _ _
 split
 ·exact .inr rfl
 split
 ·exact .inr rfl
 ·exact zIC h sz _ _
theorem zAK {wd wd':Int→Int→Int×Int} (h:ExtW wd wd') (o:Ob) (k:Int):(wordP wd o k).2=30∨wordP wd' o k=wordP wd o k:=by
 unfold wordP
 split
 ·exact .inr rfl
 split
 ·exact h _ _
 split
 ·exact .inr rfl
 split
 ·exact .inr rfl
 split
 ·exact h _ _
 ·rcases h o.seg (o.at_+k/8) with h1 | h1
  ·exact .inl h1
  ·exact .inr (by rw [h1])
theorem zwH {wd wd':Int→Int→Int×Int} (h:ExtW wd wd') (sz:List Int):∀ (st:List Int) (o:Ob) (left:Int),(goP sz wd st o left).2=30∨goP sz wd' st o left=goP sz wd st o left
 | [],o,left=>.inr rfl
 | k :: ks,o,left=>by
  simp only [goP]
  split
  ·exact .inr rfl
  rcases zzJ h sz o k with h1 | h1
  ·exact .inl (by rw [if_neg (by omega)];exact h1)
  rw [h1]
  split
  ·exact zwH h sz ks _ _
  ·exact .inr rfl
theorem zGF {wd wd':Int→Int→Int×Int} (h:ExtW wd wd') (sz st:List Int) (at_ cost:Int):(walkP sz wd st at_ cost).2=30∨walkP sz wd' st at_ cost=walkP sz wd st at_ cost:=by
 unfold walkP
 rcases zIC h sz 0 0 with h1 | h1
 ·exact .inl (by rw [if_neg (by omega)];exact h1)
 rw [h1]
 split
 ·rcases zwH h sz st (followP sz wd 0 0).1 cost with h2 | h2
  ·exact .inl (by rw [if_neg (by omega)];exact h2)
  rw [h2]
  split
  ·generalize (goP sz wd st (followP sz wd 0 0).1 cost).1=o
   unfold endP
   split
   ·exact .inr rfl
   rcases zAK h o at_ with h3 | h3
   ·exact .inl (by rw [if_neg (by omega)];exact h3)
   rw [h3]
   exact .inr rfl
  ·exact .inr rfl
 ·exact .inr rfl
theorem zuD {x:RX} (hx:x.Ok) (s p:Int):(∀ kb,wordQ (parD x kb) s p=wordA x.a s p)∨∃ j:Nat,j<x.Q∧∀ kb,wordQ (parD x kb) s p=if getB kb j=true then wordA x.a s p else (0,30):=by
 have hQ:=hx.small.2.2.2.2.2.2
 have hsz:∀ kb,(parD x kb).sz=szs x.a:=fun _=>rfl
 have hkn:∀ kb,(parD x kb).known=kb:=fun _=>rfl
 have hwd:∀ kb,(parD x kb).words=wordsK x.a.flatten kb:=fun _=>rfl
 rcases hwi:withinB (szs x.a) s p 1 with _ | _
 ·left
  intro kb
  rw [zPD hwi]
  unfold wordQ
  rw [hsz,show placeI (szs x.a) s p = -1 by unfold placeI;rw [hwi];rfl]
  rfl
 ·right
  have hpl:placeI (szs x.a) s p=p+((szs x.a).take s.toNat).sum:=by unfold placeI;rw [hwi,if_pos rfl]
  obtain ⟨g1,g2,g3,g4,g5⟩:=of_decide_eq_true hwi
  rw [zo] at g2
  have hs:s.toNat<x.a.length:=by omega
  have e1:x.a.getD s.toNat []=x.a[s.toNat]:=by rw [List.getD_eq_getElem?_getD,List.getElem?_eq_getElem hs];rfl
  have e2:(szs x.a).getD s.toNat 0=(x.a[s.toNat].length:Int):=by simp [szs,List.getD_eq_getElem?_getD,hs]
  have e3:((szs x.a).take s.toNat).sum=((x.a.take s.toNat).flatten.length:Int):=by rw [zXG,zUD]
  have hk:placeI (szs x.a) s p=(((x.a.take s.toNat).flatten.length+p.toNat:Nat):Int):=by rw [hpl,e3];omega
  have hfl:x.a.flatten=(x.a.take s.toNat).flatten++(x.a[s.toNat]++(x.a.drop (s.toNat+1)).flatten):=by
   conv=>lhs;rw [← List.take_append_drop s.toNat x.a,List.drop_eq_getElem_cons hs]
   rw [List.flatten_append,List.flatten_cons]
  have hpn:p.toNat<x.a[s.toNat].length:=by omega
  have hlt:(x.a.take s.toNat).flatten.length+p.toNat<x.a.flatten.length:=by
   conv=>rhs;rw [hfl]
   simp only [List.length_append];omega
  have hgt:x.a.flatten.getD ((x.a.take s.toNat).flatten.length+p.toNat) 0=x.a[s.toNat].getD p.toNat 0:=by
   conv=>lhs;rw [hfl]
   rw [List.getD_eq_getElem?_getD,List.getElem?_append_right (by omega),Nat.add_sub_cancel_left,List.getElem?_append_left hpn,List.getD_eq_getElem?_getD]
  have hwa:wordA x.a s p=(x.a[s.toNat].getD p.toNat 0,0):=by
   unfold wordA
   rw [if_pos ⟨g1,g2,g3,by rw [e1];omega⟩,e1]
  refine ⟨((x.a.take s.toNat).flatten.length+p.toNat)/8,by rw [hQ];omega,fun kb=>?_⟩
  unfold wordQ
  rw [hsz,hkn,hwd,hk,if_neg (by omega),Int.toNat_natCast]
  by_cases hb:getB kb (((x.a.take s.toNat).flatten.length+p.toNat)/8)=true
  ·rw [if_pos hb,if_pos hb,zYC _ _ _ hlt,if_pos hb,hgt,hwa]
  ·rw [if_neg hb,if_neg hb]
theorem zSH {x:RX} (hx:x.Ok) (kb:List Int):ExtW (wordQ (parD x kb)) (wordA x.a):=fun s p=>by
 rcases zuD hx s p with h | ⟨j,_,h⟩
 ·exact .inr (h kb).symm
 ·rw [h kb]
  split
  ·exact .inr rfl
  ·exact .inl rfl
theorem ziI {x:RX} (hx:x.Ok) {kb kb':List Int} (hb:∀ i,getB kb i=true→getB kb' i=true):ExtW (wordQ (parD x kb)) (wordQ (parD x kb')):=fun s p=>by
 rcases zuD hx s p with h | ⟨j,_,h⟩
 ·exact .inr (by rw [h,h])
 ·rw [h kb,h kb']
  split
  ·rename_i h9
   exact .inr (by rw [if_pos (hb j h9)])
  ·exact .inl rfl
theorem zBK {x:RX} (hx:x.Ok) {kb:List Int} (hb:∀ i,i<x.Q→getB kb i=true):wordQ (parD x kb)=wordA x.a:=by
 funext s p
 rcases zuD hx s p with h | ⟨j,hj,h⟩
 ·exact h kb
 ·rw [h kb,if_pos (hb j hj)]
def readS (x:RX) (st:List Int) (at_:Int):RSt→Vw×Int
 | .part kb=>walkP (szs x.a) (wordQ (parD x kb)) st at_ 8192
 | .ready=>walkP (szs x.a) (wordA x.a) st at_ 8192
 | .fail e=>(vw0,e)
 | _=>(vw0,30)
def noFail:RSt→Bool
 | .fail _=>false
 | _=>true
theorem zOE {x:RX} (hx:x.Ok) (st:List Int) (at_:Int) {s:RSt} (hs:noFail s=true):(readS x st at_ s).2=30∨readS x st at_ s=walkP (szs x.a) (wordA x.a) st at_ 8192:=by
 cases s with
 | idle=>exact .inl rfl
 | hear hs=>exact .inl rfl
 | part kb=>exact (zGF (zSH hx kb) _ _ _ _).imp id Eq.symm
 | ready=>exact .inr rfl
 | fail e=>cases hs
theorem zCK {kb:List Int} (i j:Nat) (h:getB kb j=true):getB (setB kb i) j=true:=by
 rw [zXB,h,Bool.or_true]
theorem zDK {x:RX} (hx:x.Ok) (hm:x.m=sumP x.s x.a) (hc:checkP x.a=0) (hq:8*(szs x.a).sum≤x.q) (st:List Int) (at_:Int) {s s':RSt} {kd:Option Int} (h:NextS x s s' kd) (hs:noFail s=true) :
    noFail s'=true∧(kd=none∨kd=some 3)∧((readS x st at_ s).2≠30→(readS x st at_ s').2≠30):=by
 have hhear:∀ f,noFail (hearS x f)=true:=fun f=>by
  unfold hearS
  split
  ·rw [if_neg (by omega)];rfl
  ·rfl
 have hno:∀ {r:RSt},noFail r=true→failK r=none:=fun {r} h=>by cases r <;> first | rfl | cases h
 have hend:endS x=.ready:=by unfold endS;rw [if_pos hm,if_pos hc]
 rcases h with ⟨j,_,rfl,rfl⟩ | ⟨i,_,rfl,rfl⟩
 ·cases s with
  | idle=>exact ⟨hhear _,.inl (hno (hhear _)),fun h=>absurd rfl h⟩
  | hear f =>
   have hof:noFail (offS x (.hear f) j)=true:=by
    show noFail (if f j=true then RSt.hear f else hearS x (fun i=>i==j||f i))=true
    split
    ·rfl
    ·exact hhear _
   exact ⟨hof,.inl (hno hof),fun h=>absurd rfl h⟩
  | part kb=>exact ⟨rfl,.inl rfl,id⟩
  | ready=>exact ⟨rfl,.inl rfl,id⟩
  | fail e=>cases hs
 ·cases s with
  | idle=>exact ⟨rfl,.inr rfl,fun h=>absurd rfl h⟩
  | hear f=>exact ⟨rfl,.inl rfl,fun h=>absurd rfl h⟩
  | part kb =>
   have hp:∀ kb',(∀ i,getB kb i=true→getB kb' i=true)→(readS x st at_ (.part kb)).2≠30→(readS x st at_ (.part kb')).2≠30:=fun kb' hb h9=>by
    rcases zGF (ziI hx hb) (szs x.a) st at_ 8192 with h8 | h8
    ·exact absurd h8 h9
    ·exact fun e=>h9 (by rw [← e];exact (congrArg (·.2) h8).symm)
   have hr:(readS x st at_ (.part kb)).2≠30→(readS x st at_ .ready).2≠30:=fun h9=>by
    rcases zOE hx st at_ (s:=.part kb) rfl with h8 | h8
    ·exact absurd h8 h9
    ·rw [h8] at h9;exact h9
   have hd:datS x (.part kb) i=.part kb∨datS x (.part kb) i=.part (setB kb i)∨datS x (.part kb) i=.ready:=by
    unfold datS
    split
    ·rename_i e
     injection e with e
     subst e
     split
     ·exact .inl rfl
     split
     ·exact .inr (.inl rfl)
     ·exact .inr (.inr hend)
    ·rename_i h9
     exact absurd rfl (h9 kb)
   have hk:datK x (.part kb) i=failK (datS x (.part kb) i):=rfl
   rw [hk]
   rcases hd with hd | hd | hd
   ·rw [hd];exact ⟨rfl,.inl rfl,id⟩
   ·rw [hd];exact ⟨rfl,.inl rfl,hp _ (fun j hj=>zCK i j hj)⟩
   ·rw [hd];exact ⟨rfl,.inl rfl,hr⟩
  | ready=>exact ⟨rfl,.inl rfl,id⟩
  | fail e=>cases hs
theorem zmE (w:World) (o1 o2 o3:Obj):(((w.alloc o1).alloc o2).alloc o3).heap[w.heap.size]? = some o1∧(((w.alloc o1).alloc o2).alloc o3).heap[w.heap.size+1]? = some o2∧(((w.alloc o1).alloc o2).alloc o3).heap[w.heap.size+2]? = some o3∧Grow w (((w.alloc o1).alloc o2).alloc o3):=by
 obtain ⟨h1,h2,h3⟩:=zU w o1 o2
 have hg:=(Keep.refl NoB ((w.alloc o1).alloc o2)).alloc o3
 have h4:=heap_alloc_new ((w.alloc o1).alloc o2) o3
 rw [show ((w.alloc o1).alloc o2).heap.size=w.heap.size+2 by simp] at h4
 exact ⟨Grow.heap hg h1,Grow.heap hg h2,h4,h3.grow hg⟩
def stepR (sz:List Int) (wd:Int→Int→Int×Int) (o:Ob) (k:Int):Ob×Int :=
 if o.kind=0∨(o.kind=1∧o.ptrs≤k) then (ob0,0)
 else if o.kind=1 then followP sz wd o.seg (o.at_+k+o.data)
 else if o.size≠6 then (ob0,23)
 else if o.count≤k then (ob0,20)
 else followP sz wd o.seg (o.at_+k)
theorem zSL (sz:List Int) (wd:Int→Int→Int×Int) (o:Ob) (k:Int):(stepR sz wd o k).2=(stepP sz wd o k).2∧((stepP sz wd o k).2=0→stepR sz wd o k=stepP sz wd o k):=by
 unfold stepR stepP
 split
 ·exact ⟨rfl,fun _=>rfl⟩
 split
 ·exact ⟨rfl,fun _=>rfl⟩
 split
 ·exact ⟨rfl,fun h=>by cases h⟩
 split
 ·exact ⟨rfl,fun h=>by cases h⟩
 ·exact ⟨rfl,fun _=>rfl⟩
theorem zTH (a:List (List Int)) (ho:OkA a) (A:Option Addr) (c:Nat) (w:World) (h:RowsR .u64 a (.slice A a.length c) w) (o:Ob) (hi:ObIn o) (k:Int) (hk0:0≤k) (hk1:k≤1000000):Calls Tryz.prog 175 #[.agg #[.slice A a.length c,qL,qI],.agg o,.int .i64 k] w (QFPost (stepR (szs a) (wordA a) o k) w):=by
 obtain ⟨h3,h4,h5,hgc⟩:=zmE w (.cells #[.slice A a.length c,qL,qI] 186) (.cells o 257) (.cells () 257)
 obtain ⟨f1,f2,f3⟩:=hi.few
 have ha0:=hi.at0
 have hd0:=hi.ok.d
 have hw1:IntKind.i64.wrap (o.at_+k)=o.at_+k:=IntWalk.i64_in _ (by omega)
 have hw2:IntKind.i64.wrap (o.at_+k+o.data)=o.at_+k+o.data:=IntWalk.i64_in _ (by omega)
 have HS:=LH h3
 have HZ:=LH h5
 have HG:=LH hgc
 have H:=LH (h.grow hgc)
 have HA:=LH ho
 obtain ⟨m0,m1,m2,mf⟩:=zI h3
 obtain ⟨d0,d1,d2,d3,d4,d5,d6,df⟩:=zC h4
 have HF:=LH (fun at_=>zJA a ho A c _ (h.grow hgc) o.seg at_)
 have E:Hid (stepR (szs a) (wordA a) o k=if o.kind=0∨(o.kind=1∧o.ptrs≤k) then (ob0,0) else if o.kind=1 then followP (szs a) (wordA a) o.seg (o.at_+k+o.data) else if o.size≠6 then (ob0,23) else if o.count≤k then (ob0,20) else followP (szs a) (wordA a) o.seg (o.at_+k)):=LH rfl
 clear h ho hgc h3 h4 h5 hi ha0 hd0 f1 f2
 rcases f3 with h0 | h0 | h0
 ·have kb:(o.kind==0)=true:=by rw [h0];rfl
  rw [if_pos (.inl h0)] at E
  clear h0
  go_enter Tryz.func175,Tryz.ntmps175
  go_wp2
  refine bodyPost_ret (v:=.tuple #[.agg (),qJ]) ?_ rfl ⟨by rw [E.out];rfl,HG.out⟩
  rw [results_cell_tmp rfl];go_simp
 ·have kb:(o.kind==0)=false:=by rw [h0];rfl
  have kb1:(o.kind==1)=true:=by rw [h0];rfl
  by_cases hp:o.ptrs≤k
  ·rw [if_pos (.inr ⟨h0,hp⟩)] at E
   clear h0
   go_enter Tryz.func175,Tryz.ntmps175
   go_wp2
   refine bodyPost_ret (v:=.tuple #[.agg (),qJ]) ?_ rfl ⟨by rw [E.out];rfl,HG.out⟩
   rw [results_cell_tmp rfl];go_simp
  ·rw [if_neg (by omega),if_pos h0] at E
   clear h0
   go_enter Tryz.func175,Tryz.ntmps175
   go_wp2_with fail
   refine (HF.out (o.at_+k+o.data)).mono ?_
   obtain ⟨RP,hRP⟩:∃ RP,followP (szs a) (wordA a) o.seg (o.at_+k+o.data)=RP:=⟨_,rfl⟩
   rw [hRP] at E ⊢
   clear hRP
   rintro e w1 ⟨rfl,hg⟩
   have hga:=(Keep.refl NoB w1).alloc (.cells RP.1 257)
   obtain ⟨c0,c1,c2,c3,c4,c5,c6,cf⟩:=zC (heap_alloc_new w1 (.cells RP.1 257))
   have hz1:=Grow.heap hg HZ.out
   have hb1:w.heap.size+2<w1.heap.size:=(gE hz1).1
   have hne1:w1.heap.size≠w.heap.size+2:=by omega
   have hne2:w.heap.size+2≠w1.heap.size:=by omega
   replace HZ:=LH (Grow.heap hga hz1)
   replace HG:=LH (HG.out.grow (hg.grow hga))
   clear hg hga hz1 hb1 m0 m1 m2 mf d0 d1 d2 d3 d4 d5 d6 df HF
   obtain ⟨y0,y1,y2,y3,y4,y5,y6,yf⟩:=zC HZ.out
   go_wp2
   refine ret7 HG.out (by omega) HZ.out (fun w' z0 z1 z2 z3 z4 z5 z6 zf=>?_) rfl (fun w' hg=>⟨by rw [E.out],hg⟩)
   rw [results_cell_tmp rfl];go_simp
 ·have kb:(o.kind==0)=false:=by rw [h0];rfl
  have kb1:(o.kind==1)=false:=by rw [h0];rfl
  rw [if_neg (by omega),if_neg (by omega)] at E
  clear h0
  by_cases hs:o.size=6
  ·have hsb:(o.size != 6)=false:=by rw [hs];rfl
   rw [if_neg (fun h=>h hs)] at E
   clear hs
   by_cases hc:o.count≤k
   ·rw [if_pos hc] at E
    go_enter Tryz.func175,Tryz.ntmps175
    go_wp2
    refine bodyPost_ret (v:=.tuple #[.agg (),.int .i64 20]) ?_ rfl ⟨by rw [E.out];rfl,HG.out⟩
    rw [results_cell_tmp rfl];go_simp
   ·rw [if_neg hc] at E
    go_enter Tryz.func175,Tryz.ntmps175
    go_wp2_with fail
    refine (HF.out (o.at_+k)).mono ?_
    obtain ⟨RP,hRP⟩:∃ RP,followP (szs a) (wordA a) o.seg (o.at_+k)=RP:=⟨_,rfl⟩
    rw [hRP] at E ⊢
    clear hRP
    rintro e w1 ⟨rfl,hg⟩
    have hga:=(Keep.refl NoB w1).alloc (.cells RP.1 257)
    obtain ⟨c0,c1,c2,c3,c4,c5,c6,cf⟩:=zC (heap_alloc_new w1 (.cells RP.1 257))
    have hz1:=Grow.heap hg HZ.out
    have hb1:w.heap.size+2<w1.heap.size:=(gE hz1).1
    have hne1:w1.heap.size≠w.heap.size+2:=by omega
    have hne2:w.heap.size+2≠w1.heap.size:=by omega
    replace HZ:=LH (Grow.heap hga hz1)
    replace HG:=LH (HG.out.grow (hg.grow hga))
    clear hg hga hz1 hb1 m0 m1 m2 mf d0 d1 d2 d3 d4 d5 d6 df HF
    obtain ⟨y0,y1,y2,y3,y4,y5,y6,yf⟩:=zC HZ.out
    go_wp2
    refine ret7 HG.out (by omega) HZ.out (fun w' z0 z1 z2 z3 z4 z5 z6 zf=>?_) rfl (fun w' hg=>⟨by rw [E.out],hg⟩)
    rw [results_cell_tmp rfl];go_simp
  ·have hsb:(o.size != 6)=true:=bne_iff_ne.2 hs
   rw [if_pos hs] at E
   clear hs
   go_enter Tryz.func175,Tryz.ntmps175
   go_wp2
   refine bodyPost_ret (v:=.tuple #[.agg (),.int .i64 23]) ?_ rfl ⟨by rw [E.out];rfl,HG.out⟩
   rw [results_cell_tmp rfl];go_simp
end Go.Proofs.YtfkcpaahdlkcdaaGreat

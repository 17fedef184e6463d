import Derived.Test.YtfkcpaahdlkcdaaGreatRRecvSum06
import Derived.Test.YtfkcpaahdlkcdaaGreatRRecvSum07
import Derived.Test.YtfkcpaahdlkcdaaGreatRRecvSum12
set_option linter.unusedSimpArgs false
set_option linter.unusedVariables false
set_option maxRecDepth 100000
set_option maxHeartbeats 16000000
namespace Go.Proofs.YtfkcpaahdlkcdaaGreat
open Go.RowKit
theorem zyA {w:World} {p:Addr} {v:Value} (h:w.cell? p=some v):p.block<w.heap.size:=by
 rcases Nat.lt_or_ge p.block w.heap.size with h9 | h9
 ·exact h9
 ·unfold World.cell? at h;rw [Array.getElem?_eq_none h9] at h;cases h
def BY (w:World) (n:Nat) (A:Option Addr) (c:Nat) (u:World):Prop:=Grow w u∧∃ a:List (List Int),a.length=n∧OkA a∧fitsB (szs a)=true∧RowsN w.heap.size a (.slice A n c) u
theorem zKL (l : List Int) (A : Option Addr) (c : Nat) (d : List Int) (Ad : Option Addr) (cd : Nat) (k : Int) (w : World) (h : SliceR 1 (.slice A l.length c) l.length (u8s l) w) (hd : SliceR 1 (.slice Ad d.length cd) d.length (u8s d) w) (hl : l.length ≤ 100) (hu : okU l) (hud : okU d) (hk0 : 0 ≤ k) (hk1 : k ≤ 255) :
    Calls Tryz.prog 15 #[.slice A l.length c,.slice Ad d.length cd,.int .u8 k] w (BentFit w):=by
 have hc:l.length≤c:=by
  obtain ⟨_,_,e,h2,_⟩:=h
  injection e with _ _ e3
  omega
 have hT:=zrF 6 (by omega) l A c w w (Keep.refl NoB w) h (by omega) hu
 rw [show ((6:Nat):Int)=6 from rfl] at hT
 have HT:=LH hT
 have HD:=LH hd
 have HUD:=LH hud
 have hlt:((l.length:Nat):Int)<200:=by omega
 have hle:((l.length:Nat):Int)≤200:=by omega
 have hge:¬ (200:Int)≤((l.length:Nat):Int):=by omega
 have hk2:0≤k%30:=by omega
 have hk3:k%30≤29:=by omega
 have hkw:IntKind.i64.wrap (3+k%30)=3+k%30:=IntWalk.i64_in _ (by omega)
 have hmin:min ((l.length:Nat):Int) 200=((l.length:Nat):Int):=Int.min_eq_left hle
 clear h hd hu hT hud
 go_enter Tryz.func15,Tryz.ntmps15
 go_wp2_with fail
 refine HT.out.mono ?_
 rintro e w1 ⟨t,A1,A2,A3,c1,c2,c3,l',A',c',rfl,hg,hf,hN,hB,_,_,_,hTN⟩
 have HTN:Hid (rightB 32 t=true∧(needL 32 t:Int)≤700):=LH ⟨(hTN 32 (by omega)).1,by have:=(hTN 32 (by omega)).2;omega⟩
 have HF:=LH (hf.now.grow ((Keep.refl NoB w1).alloc (.cells #[.int .i64 t.kind,.int .i64 t.size,.slice A1 t.ws.length c1,.slice A2 t.bs.length c2,.slice A3 t.kids.length c3] 114)))
 have HNB:=LH (And.intro hN hB)
 have HG:=LH (hg.alloc (.cells #[.int .i64 t.kind,.int .i64 t.size,.slice A1 t.ws.length c1,.slice A2 t.bs.length c2,.slice A3 t.kids.length c3] 114))
 have HC:=LH (heap_alloc_new w1 (.cells #[.int .i64 t.kind,.int .i64 t.size,.slice A1 t.ws.length c1,.slice A2 t.bs.length c2,.slice A3 t.kids.length c3] 114))
 clear hg hf hN hB HT hTN
 go_wp2_with fail
 refine (zqC t _ _ _ (3+k%30) _ HF.out HNB.out.2 HNB.out.1 (by omega) (by omega)).mono ?_
 rintro e w2 ⟨hg2,hr⟩
 have HF2:=LH (HF.out.grow hg2)
 have HSZ:=LH HG.out.size
 replace HG:=LH (HG.out.grow hg2)
 replace HC:=LH (Grow.heap hg2 HC.out)
 clear hg2
 rcases hr with ⟨r,hr,rfl,-⟩ | ⟨a,Aa,ca,rfl,hlim,hnum,hone,hrows⟩
 focus
  have hrb:(r != 0)=true:=by simp [hr]
  obtain ⟨n0,n1,n2,n3,n4,nf⟩:=zA HC.out
  clear hr
  go_wp2_with fail
  refine (zqC t _ _ _ 4096 _ HF2.out HNB.out.2 HNB.out.1 (by omega) (by omega)).mono ?_
  rintro e w3 ⟨hg3,hr⟩
  replace HSZ:=LH HG.out.size
  replace HG:=LH (HG.out.grow hg3)
  clear hg3 n0 n1 n2 n3 n4 nf
  rcases hr with ⟨r2,hr,rfl,hno⟩ | ⟨a,Aa,ca,rfl,hlim,hnum,hone,hrows⟩
  ·have:=hno HTN.out.1
   have:=HTN.out.2
   omega
  obtain ⟨n,hn⟩:∃ n,a.length=n:=⟨_,rfl⟩
  have HFIN:Hid (BY w n Aa ca w3∧1≤n):=LH ⟨⟨HG.out,a,hn,OkA.of_lim hlim hnum,hone,by rw [hn] at hrows;exact hrows.mono HSZ.out⟩,by
   have:=(of_decide_eq_true hone).1;rw [zi] at this;omega⟩
  rw [hn]
  clear hlim hnum hone hrows hn HF HF2 HNB HG HC HTN HSZ hrb
  generalize w3=wx at HFIN ⊢
  clear a
  go_wp2_with fail
 rotate_left
 focus
  obtain ⟨n,hn⟩:∃ n,a.length=n:=⟨_,rfl⟩
  have HFIN:Hid (BY w n Aa ca w2∧1≤n):=LH ⟨⟨HG.out,a,hn,OkA.of_lim hlim hnum,hone,by rw [hn] at hrows;exact hrows.mono HSZ.out⟩,by
   have:=(of_decide_eq_true hone).1;rw [zi] at this;omega⟩
  rw [hn]
  clear hlim hnum hone hrows hn HF HF2 HNB HG HC HTN HSZ
  generalize w2=wx at HFIN ⊢
  clear a
  go_wp2_with fail
 all_goals
  go_loopw [13] (fun v wr=>∃ q:Nat,q≤16∧v=.int .i64 q∧Hid (BY w n Aa ca wr)) (fun v _=>16-(intOf v).toNat)
  case atStart=>exact ⟨0,by omega,rfl,LH HFIN.out.1⟩
  case round =>
   obtain ⟨q,hq,rfl,HS⟩:=hrel
   have hn1:=HFIN.out.2
   have hw3:IntKind.i64.wrap ((q:Int)+3)=(q:Int)+3:=IntWalk.i64_in _ (by omega)
   by_cases hlt1:q+3<d.length
   ·by_cases hlt2:q<12
    ·have h1:(q:Int)+3<d.length:=by omega
     have h2:(q:Int)<12:=by omega
     obtain ⟨q1,hq1⟩:∃ q1:Nat,q1=q+1:=⟨_,rfl⟩
     obtain ⟨q2,hq2⟩:∃ q2:Nat,q2=q+2:=⟨_,rfl⟩
     obtain ⟨q3,hq3⟩:∃ q3:Nat,q3=q+3:=⟨_,rfl⟩
     have e1:IntKind.i64.wrap ((q:Int)+1)=(q1:Int):=by rw [IntWalk.i64_in _ (by omega)];omega
     have e2:IntKind.i64.wrap ((q:Int)+2)=(q2:Int):=by rw [IntWalk.i64_in _ (by omega)];omega
     have e3:IntKind.i64.wrap ((q:Int)+3)=(q3:Int):=by rw [IntWalk.i64_in _ (by omega)];omega
     obtain ⟨add,hdd,p0⟩:=SliceR.int_at (k:=.u8) (HD.out.grow HS.out.1) q (by omega)
     obtain ⟨add1,hdd1,p1⟩:=SliceR.int_at (k:=.u8) (HD.out.grow HS.out.1) q1 (by omega)
     obtain ⟨add2,hdd2,p2⟩:=SliceR.int_at (k:=.u8) (HD.out.grow HS.out.1) q2 (by omega)
     obtain ⟨add3,hdd3,p3⟩:=SliceR.int_at (k:=.u8) (HD.out.grow HS.out.1) q3 (by omega)
     rw [hdd] at hdd1 hdd2 hdd3
     injection hdd1 with hdd1
     injection hdd2 with hdd2
     injection hdd3 with hdd3
     subst hdd hdd1 hdd2 hdd3
     have g1:(q1:Int)<d.length:=by omega
     have g2:(q2:Int)<d.length:=by omega
     have g3:(q3:Int)<d.length:=by omega
     have g10:0≤(q1:Int):=Int.natCast_nonneg _
     have g20:0≤(q2:Int):=Int.natCast_nonneg _
     have g30:0≤(q3:Int):=Int.natCast_nonneg _
     have b0:=HUD.out _ (List.getElem_mem (show q<d.length by omega))
     have b1:=HUD.out _ (List.getElem_mem (show q1<d.length by omega))
     have b2:=HUD.out _ (List.getElem_mem (show q2<d.length by omega))
     have b3:=HUD.out _ (List.getElem_mem (show q3<d.length by omega))
     generalize d[q]'(by omega)=x0 at p0 b0
     generalize d[q1]'(by omega)=x1 at p1 b1
     generalize d[q2]'(by omega)=x2 at p2 b2
     generalize d[q3]'(by omega)=x3 at p3 b3
     obtain ⟨s,hs⟩:∃ s:Nat,x0%(n:Int)=s:=⟨(x0%(n:Int)).toNat,by have:=Int.emod_nonneg x0 (show (n:Int)≠0 by omega);omega⟩
     have hsn:(s:Int)<n:=by have:=Int.emod_lt_of_pos x0 (show (0:Int)<n by omega);omega
     have HQ:=LH (And.intro hq1 (And.intro hq2 hq3))
     clear hq1 hq2 hq3
     obtain ⟨hgr,a,hal,hoa,hfit,hrow⟩:=HS.out
     subst hal
     obtain ⟨ada,A7,c7,hAa,hh,_⟩:=RowsU.at_ hrow.rowsU s (by omega)
     obtain ⟨L,hL⟩:∃ L,(a[s]'(by omega)).length=L:=⟨_,rfl⟩
     have HR:=LH (And.intro hL (And.intro hoa (And.intro hfit hrow)))
     subst hAa
     rw [hL] at hh
     obtain ⟨b00,b01⟩:=b0
     obtain ⟨b10,b11⟩:=b1
     obtain ⟨b20,b21⟩:=b2
     obtain ⟨b30,b31⟩:=b3
     clear hoa hfit hrow hgr hL
     by_cases hz:L=0
     ·have hz1:(L:Int)=0:=by omega
      go_wp2
      go_roundw
      case rel=>exact ⟨q+4,by omega,by go_num,HS⟩
      case measure=>simp [intOf];omega
     ·have hz1:¬ (L:Int)=0:=by omega
      obtain ⟨t9,ht9⟩:∃ t9:Nat,x1%(L:Int)=t9:=⟨(x1%(L:Int)).toNat,by have:=Int.emod_nonneg x1 (show (L:Int)≠0 by omega);omega⟩
      have htl:(t9:Int)<L:=by have:=Int.emod_lt_of_pos x1 (show (0:Int)<L by omega);omega
      have htm:(IntKind.i64.wrap x1).tmod (L:Int)=(t9:Int):=by rw [IntWalk.i64_in x1 (by omega),Int.tmod_eq_emod_of_nonneg b10];exact ht9
      go_wp2
      refine zD [0,1,2,3,4,5,6,7,8,9,10,11,12] [12] [4,9] [] rfl (by kernel_rfl) ?_
      iterate 4
       refine ord_p ?_
      refine ord_r (y:=by intro w' hg;have q:=hg.cell p1 (fun h=>h);go_simp;with_reducible rfl) (z:=?_)
      iterate 4
       refine ord_p ?_
      refine ord_r (y:=by intro w' hg;have q:=hg.cell hh (fun h=>h);go_simp;with_reducible rfl) (z:=?_)
      iterate 2
       refine ord_p ?_
      refine ord_s ?_
      refine zF ?_
      rw [hs]
      have hgd:=(Keep.refl NoB wr).drew
      have HS3:Hid (Grow w wr.drew∧RowsN w.heap.size a (.slice (some ada) a.length ca) wr.drew):=LH ⟨HS.out.1.drew,HR.out.2.2.2.grow hgd⟩
      replace p2:wr.drew.cell? _=_:=p2
      replace p3:wr.drew.cell? _=_:=p3
      replace hh:wr.drew.cell? _=_:=hh
      clear p0 p1 hgd hw3
      generalize wr.drew=w3 at HS3 p2 p3 hh ⊢
      go_wp2
      refine zD [0,1,2,3,4,5,6,7,8,9,10,11,12,13,14,15,16,17,18] [17,18] [4,12] [18] rfl (by kernel_rfl) ?_
      iterate 4
       refine ord_p ?_
      refine ord_r (y:=by intro w' hg;have q:=hg.cell p2 (fun h=>h);go_simp;with_reducible rfl) (z:=?_)
      iterate 7
       refine ord_p ?_
      refine ord_r (y:=by intro w' hg;have q:=hg.cell p3 (fun h=>h);go_simp;with_reducible rfl) (z:=?_)
      iterate 4
       refine ord_p ?_
      refine zl rfl rfl rfl rfl ?_ ?_ ?_ ?_ ?_ ?_
      rotate_left 3
      ·go_simp;first | with_reducible rfl | (constructor <;> with_reducible rfl)
      ·simp only [Act.put,pB,pC,pD];rfl
      refine zK rfl rfl rfl rfl ?_ ?_ (fun h=>absurd (by simp) h) ?_
      rotate_left
      ·go_simp;with_reducible rfl
      refine zF ?_
      generalize IntKind.i64.wrap (IntKind.i64.wrap (x3.tmod 16)-4)=O9
      have hkk:x2%3=0∨x2%3=1∨x2%3=2:=by omega
      rcases hkk with hkk | hkk | hkk
      ·rw [show IntKind.i64.wrap (1+IntKind.i64.wrap (x2.tmod 3))=1 from by rw [Int.tmod_eq_emod_of_nonneg b20,IntWalk.i64_in (x2%3) (by omega),IntWalk.i64_in _ (by omega)];omega]
       have HB:=LH (show (w3.alloc (.cells #[.int .i64 1,.int .i64 O9,.int .i64 0,.int .i64 0,.int .i64 0,.int .i64 0,.int .i64 0,.bool false] 120)).drew.heap[w3.heap.size]? = _ from heap_alloc_new w3 (.cells #[.int .i64 1,.int .i64 O9,.int .i64 0,.int .i64 0,.int .i64 0,.int .i64 0,.int .i64 0,.bool false] 120))
       have hg5:=((Keep.refl NoB w3).alloc (.cells #[.int .i64 1,.int .i64 O9,.int .i64 0,.int .i64 0,.int .i64 0,.int .i64 0,.int .i64 0,.bool false] 120)).drew
       have hsz5:(w3.alloc (.cells #[.int .i64 1,.int .i64 O9,.int .i64 0,.int .i64 0,.int .i64 0,.int .i64 0,.int .i64 0,.bool false] 120)).drew.heap.size=w3.heap.size+1:=by simp
       have HP2:=LH p2
       have HP3:=LH p3
       replace p2:=hg5.cell p2 (fun h=>h)
       replace p3:=hg5.cell p3 (fun h=>h)
       clear hh
       have HG5:=LH hg5
       clear hg5
       generalize (w3.alloc (.cells #[.int .i64 1,.int .i64 O9,.int .i64 0,.int .i64 0,.int .i64 0,.int .i64 0,.int .i64 0,.bool false] 120)).drew=w5 at HB HG5 p2 p3 hsz5 ⊢
       obtain ⟨N,hN⟩:∃ N,w3.heap.size=N:=⟨_,rfl⟩
       rw [hN] at HB hsz5 ⊢
       have HNN:=LH hN
       have hne1:N≠w5.heap.size:=by omega
       have hne2:w5.heap.size≠N:=by omega
       have hq2N:∀ (u:World) (i:Nat) (v:Value),(u.setCell ⟨N,i,none⟩ v).cell? (add.add q2)=u.cell? (add.add q2):=fun u i v=>World.cell?_setCell_other _ _ _ _ (fun e=>by have h8:=zyA HP2.out;rw [← e] at h8;exact absurd hN (by have h7:N<w3.heap.size:=h8;omega))
       have hq3N:∀ (u:World) (i:Nat) (v:Value),(u.setCell ⟨N,i,none⟩ v).cell? (add.add q3)=u.cell? (add.add q3):=fun u i v=>World.cell?_setCell_other _ _ _ _ (fun e=>by have h8:=zyA HP3.out;rw [← e] at h8;exact absurd hN (by have h7:N<w3.heap.size:=h8;omega))
       have ha2N:∀ o:Obj,(w5.alloc o).cell? (add.add q2)=some (.int .u8 x2):=fun o=>(World.cell?_alloc_lt _ _ _ (zyA p2)).trans p2
       have hca:∀ (o:Obj) (i:Nat),(w5.alloc o).cell? ⟨N,i,none⟩=w5.cell? ⟨N,i,none⟩:=fun o i=>World.cell?_alloc_old _ _ _ hne1
       have hfa:∀ (o:Obj) (i:Nat),(w5.alloc o).frozen? ⟨N,i,none⟩=false:=fun o i=>(World.frozen?_alloc_old _ _ _ hne1).trans (zM i HB.out)
       have hal:(a.length:Int)≤100000:=by have:=HR.out.2.1.segs;omega
       have haw:IntKind.i64.wrap ((a.length:Int)+1)=(a.length:Int)+1:=IntWalk.i64_in _ (by omega)
       have ha0:¬ ((a.length:Int)+1=0):=by omega
       have ha1:0≤(a.length:Int)+1:=by omega
       clear hN hsz5
       obtain ⟨z0,z1,z2,z3,z4,z5,z6,z7,zf⟩:=zO HB.out
       go_wp2_with fail
       refine (zLA ⟨_,_,_,_,_,_,_,_⟩ _).mono ?_
       rintro e w6 ⟨xx,rr,rfl,hx0,hx1,hg6⟩
       have hg7:Grow w3 w6:=Keep.grow ((HG5.out.setCell (p:=⟨N,2,none⟩) (.inr (Nat.le_of_eq HNN.out)) _).setCell (p:=⟨N,3,none⟩) (.inr (Nat.le_of_eq HNN.out)) _) hg6
       obtain ⟨ad9,ad2,c2,hA9,hh9,⟨y,hy⟩,hfz,hBk,hst⟩:=(HS3.out.2.grow hg7).store s t9 (by have:=hsn;omega) (by rw [HR.out.1];have:=htl;omega)
       injection hA9 with hA9
       subst hA9
       rw [HR.out.1] at hh9
       have HEND:Hid (BY w a.length (some ada) ca (w6.setCell (ad2.add t9) (.int .u64 xx))):=LH ⟨(HS3.out.1.grow hg7).setCell (.inr hBk) _,by
        obtain ⟨a2,e1,e2,e3,e4⟩:=hst xx hx0 hx1 HR.out.2.1
        exact ⟨a2,e1,e3,by rw [e2];exact HR.out.2.2.1,by rw [e1] at e4;exact e4⟩⟩
       clear hst hBk hg7 hg6 z0 z1 z2 z3 z4 z5 z6 z7 zf p2 p3 hq2N hq3N ha2N hca hfa hal haw ha0 ha1
       go_wp2
       go_roundw
       case rel=>exact ⟨q+4,by omega,by go_num,HEND⟩
       case measure=>simp [intOf];omega
      ·rw [show IntKind.i64.wrap (1+IntKind.i64.wrap (x2.tmod 3))=2 from by rw [Int.tmod_eq_emod_of_nonneg b20,IntWalk.i64_in (x2%3) (by omega),IntWalk.i64_in _ (by omega)];omega]
       have HB:=LH (show (w3.alloc (.cells #[.int .i64 2,.int .i64 O9,.int .i64 0,.int .i64 0,.int .i64 0,.int .i64 0,.int .i64 0,.bool false] 120)).drew.heap[w3.heap.size]? = _ from heap_alloc_new w3 (.cells #[.int .i64 2,.int .i64 O9,.int .i64 0,.int .i64 0,.int .i64 0,.int .i64 0,.int .i64 0,.bool false] 120))
       have hg5:=((Keep.refl NoB w3).alloc (.cells #[.int .i64 2,.int .i64 O9,.int .i64 0,.int .i64 0,.int .i64 0,.int .i64 0,.int .i64 0,.bool false] 120)).drew
       have hsz5:(w3.alloc (.cells #[.int .i64 2,.int .i64 O9,.int .i64 0,.int .i64 0,.int .i64 0,.int .i64 0,.int .i64 0,.bool false] 120)).drew.heap.size=w3.heap.size+1:=by simp
       have HP2:=LH p2
       have HP3:=LH p3
       replace p2:=hg5.cell p2 (fun h=>h)
       replace p3:=hg5.cell p3 (fun h=>h)
       clear hh
       have HG5:=LH hg5
       clear hg5
       generalize (w3.alloc (.cells #[.int .i64 2,.int .i64 O9,.int .i64 0,.int .i64 0,.int .i64 0,.int .i64 0,.int .i64 0,.bool false] 120)).drew=w5 at HB HG5 p2 p3 hsz5 ⊢
       obtain ⟨N,hN⟩:∃ N,w3.heap.size=N:=⟨_,rfl⟩
       rw [hN] at HB hsz5 ⊢
       have HNN:=LH hN
       have hne1:N≠w5.heap.size:=by omega
       have hne2:w5.heap.size≠N:=by omega
       have hq2N:∀ (u:World) (i:Nat) (v:Value),(u.setCell ⟨N,i,none⟩ v).cell? (add.add q2)=u.cell? (add.add q2):=fun u i v=>World.cell?_setCell_other _ _ _ _ (fun e=>by have h8:=zyA HP2.out;rw [← e] at h8;exact absurd hN (by have h7:N<w3.heap.size:=h8;omega))
       have hq3N:∀ (u:World) (i:Nat) (v:Value),(u.setCell ⟨N,i,none⟩ v).cell? (add.add q3)=u.cell? (add.add q3):=fun u i v=>World.cell?_setCell_other _ _ _ _ (fun e=>by have h8:=zyA HP3.out;rw [← e] at h8;exact absurd hN (by have h7:N<w3.heap.size:=h8;omega))
       have ha2N:∀ o:Obj,(w5.alloc o).cell? (add.add q2)=some (.int .u8 x2):=fun o=>(World.cell?_alloc_lt _ _ _ (zyA p2)).trans p2
       have hca:∀ (o:Obj) (i:Nat),(w5.alloc o).cell? ⟨N,i,none⟩=w5.cell? ⟨N,i,none⟩:=fun o i=>World.cell?_alloc_old _ _ _ hne1
       have hfa:∀ (o:Obj) (i:Nat),(w5.alloc o).frozen? ⟨N,i,none⟩=false:=fun o i=>(World.frozen?_alloc_old _ _ _ hne1).trans (zM i HB.out)
       have hal:(a.length:Int)≤100000:=by have:=HR.out.2.1.segs;omega
       have haw:IntKind.i64.wrap ((a.length:Int)+1)=(a.length:Int)+1:=IntWalk.i64_in _ (by omega)
       have ha0:¬ ((a.length:Int)+1=0):=by omega
       have ha1:0≤(a.length:Int)+1:=by omega
       clear hN hsz5
       obtain ⟨z0,z1,z2,z3,z4,z5,z6,z7,zf⟩:=zO HB.out
       have hk4:x2%4=0∨x2%4=1∨x2%4=2∨x2%4=3:=by omega
       rcases hk4 with hk4 | hk4 | hk4 | hk4
       ·go_wp2_with fail
        refine (zLA ⟨_,_,_,_,_,_,_,_⟩ _).mono ?_
        rintro e w6 ⟨xx,rr,rfl,hx0,hx1,hg6⟩
        have hg7:Grow w3 w6:=Keep.grow (((HG5.out.alloc _).setCell (p:=⟨N,4,none⟩) (.inr (Nat.le_of_eq HNN.out)) _).setCell (p:=⟨N,5,none⟩) (.inr (Nat.le_of_eq HNN.out)) _) hg6
        obtain ⟨ad9,ad2,c2,hA9,hh9,⟨y,hy⟩,hfz,hBk,hst⟩:=(HS3.out.2.grow hg7).store s t9 (by have:=hsn;omega) (by rw [HR.out.1];have:=htl;omega)
        injection hA9 with hA9
        subst hA9
        rw [HR.out.1] at hh9
        have HEND:Hid (BY w a.length (some ada) ca (w6.setCell (ad2.add t9) (.int .u64 xx))):=LH ⟨(HS3.out.1.grow hg7).setCell (.inr hBk) _,by
         obtain ⟨a2,e1,e2,e3,e4⟩:=hst xx hx0 hx1 HR.out.2.1
         exact ⟨a2,e1,e3,by rw [e2];exact HR.out.2.2.1,by rw [e1] at e4;exact e4⟩⟩
        clear hst hBk hg7 hg6 z0 z1 z2 z3 z4 z5 z6 z7 zf p2 p3 hq2N hq3N ha2N hca hfa hal haw ha0 ha1
        go_wp2
        go_roundw
        case rel=>exact ⟨q+4,by omega,by go_num,HEND⟩
        case measure=>simp [intOf];omega
       ·go_wp2_with fail
        refine (zLA ⟨_,_,_,_,_,_,_,_⟩ _).mono ?_
        rintro e w6 ⟨xx,rr,rfl,hx0,hx1,hg6⟩
        have hg7:Grow w3 w6:=Keep.grow (((HG5.out.alloc _).setCell (p:=⟨N,4,none⟩) (.inr (Nat.le_of_eq HNN.out)) _).setCell (p:=⟨N,5,none⟩) (.inr (Nat.le_of_eq HNN.out)) _) hg6
        obtain ⟨ad9,ad2,c2,hA9,hh9,⟨y,hy⟩,hfz,hBk,hst⟩:=(HS3.out.2.grow hg7).store s t9 (by have:=hsn;omega) (by rw [HR.out.1];have:=htl;omega)
        injection hA9 with hA9
        subst hA9
        rw [HR.out.1] at hh9
        have HEND:Hid (BY w a.length (some ada) ca (w6.setCell (ad2.add t9) (.int .u64 xx))):=LH ⟨(HS3.out.1.grow hg7).setCell (.inr hBk) _,by
         obtain ⟨a2,e1,e2,e3,e4⟩:=hst xx hx0 hx1 HR.out.2.1
         exact ⟨a2,e1,e3,by rw [e2];exact HR.out.2.2.1,by rw [e1] at e4;exact e4⟩⟩
        clear hst hBk hg7 hg6 z0 z1 z2 z3 z4 z5 z6 z7 zf p2 p3 hq2N hq3N ha2N hca hfa hal haw ha0 ha1
        go_wp2
        go_roundw
        case rel=>exact ⟨q+4,by omega,by go_num,HEND⟩
        case measure=>simp [intOf];omega
       ·go_wp2_with fail
        refine (zLA ⟨_,_,_,_,_,_,_,_⟩ _).mono ?_
        rintro e w6 ⟨xx,rr,rfl,hx0,hx1,hg6⟩
        have hg7:Grow w3 w6:=Keep.grow (((HG5.out.alloc _).setCell (p:=⟨N,4,none⟩) (.inr (Nat.le_of_eq HNN.out)) _).setCell (p:=⟨N,5,none⟩) (.inr (Nat.le_of_eq HNN.out)) _) hg6
        obtain ⟨ad9,ad2,c2,hA9,hh9,⟨y,hy⟩,hfz,hBk,hst⟩:=(HS3.out.2.grow hg7).store s t9 (by have:=hsn;omega) (by rw [HR.out.1];have:=htl;omega)
        injection hA9 with hA9
        subst hA9
        rw [HR.out.1] at hh9
        have HEND:Hid (BY w a.length (some ada) ca (w6.setCell (ad2.add t9) (.int .u64 xx))):=LH ⟨(HS3.out.1.grow hg7).setCell (.inr hBk) _,by
         obtain ⟨a2,e1,e2,e3,e4⟩:=hst xx hx0 hx1 HR.out.2.1
         exact ⟨a2,e1,e3,by rw [e2];exact HR.out.2.2.1,by rw [e1] at e4;exact e4⟩⟩
        clear hst hBk hg7 hg6 z0 z1 z2 z3 z4 z5 z6 z7 zf p2 p3 hq2N hq3N ha2N hca hfa hal haw ha0 ha1
        go_wp2
        go_roundw
        case rel=>exact ⟨q+4,by omega,by go_num,HEND⟩
        case measure=>simp [intOf];omega
       ·go_wp2_with fail
        refine (zLA ⟨_,_,_,_,_,_,_,_⟩ _).mono ?_
        rintro e w6 ⟨xx,rr,rfl,hx0,hx1,hg6⟩
        have hg7:Grow w3 w6:=Keep.grow (((HG5.out.alloc _).setCell (p:=⟨N,4,none⟩) (.inr (Nat.le_of_eq HNN.out)) _).setCell (p:=⟨N,5,none⟩) (.inr (Nat.le_of_eq HNN.out)) _) hg6
        obtain ⟨ad9,ad2,c2,hA9,hh9,⟨y,hy⟩,hfz,hBk,hst⟩:=(HS3.out.2.grow hg7).store s t9 (by have:=hsn;omega) (by rw [HR.out.1];have:=htl;omega)
        injection hA9 with hA9
        subst hA9
        rw [HR.out.1] at hh9
        have HEND:Hid (BY w a.length (some ada) ca (w6.setCell (ad2.add t9) (.int .u64 xx))):=LH ⟨(HS3.out.1.grow hg7).setCell (.inr hBk) _,by
         obtain ⟨a2,e1,e2,e3,e4⟩:=hst xx hx0 hx1 HR.out.2.1
         exact ⟨a2,e1,e3,by rw [e2];exact HR.out.2.2.1,by rw [e1] at e4;exact e4⟩⟩
        clear hst hBk hg7 hg6 z0 z1 z2 z3 z4 z5 z6 z7 zf p2 p3 hq2N hq3N ha2N hca hfa hal haw ha0 ha1
        go_wp2
        go_roundw
        case rel=>exact ⟨q+4,by omega,by go_num,HEND⟩
        case measure=>simp [intOf];omega
      ·rw [show IntKind.i64.wrap (1+IntKind.i64.wrap (x2.tmod 3))=3 from by rw [Int.tmod_eq_emod_of_nonneg b20,IntWalk.i64_in (x2%3) (by omega),IntWalk.i64_in _ (by omega)];omega]
       have HB:=LH (show (w3.alloc (.cells #[.int .i64 3,.int .i64 O9,.int .i64 0,.int .i64 0,.int .i64 0,.int .i64 0,.int .i64 0,.bool false] 120)).drew.heap[w3.heap.size]? = _ from heap_alloc_new w3 (.cells #[.int .i64 3,.int .i64 O9,.int .i64 0,.int .i64 0,.int .i64 0,.int .i64 0,.int .i64 0,.bool false] 120))
       have hg5:=((Keep.refl NoB w3).alloc (.cells #[.int .i64 3,.int .i64 O9,.int .i64 0,.int .i64 0,.int .i64 0,.int .i64 0,.int .i64 0,.bool false] 120)).drew
       have hsz5:(w3.alloc (.cells #[.int .i64 3,.int .i64 O9,.int .i64 0,.int .i64 0,.int .i64 0,.int .i64 0,.int .i64 0,.bool false] 120)).drew.heap.size=w3.heap.size+1:=by simp
       have HP2:=LH p2
       have HP3:=LH p3
       replace p2:=hg5.cell p2 (fun h=>h)
       replace p3:=hg5.cell p3 (fun h=>h)
       clear hh
       have HG5:=LH hg5
       clear hg5
       generalize (w3.alloc (.cells #[.int .i64 3,.int .i64 O9,.int .i64 0,.int .i64 0,.int .i64 0,.int .i64 0,.int .i64 0,.bool false] 120)).drew=w5 at HB HG5 p2 p3 hsz5 ⊢
       obtain ⟨N,hN⟩:∃ N,w3.heap.size=N:=⟨_,rfl⟩
       rw [hN] at HB hsz5 ⊢
       have HNN:=LH hN
       have hne1:N≠w5.heap.size:=by omega
       have hne2:w5.heap.size≠N:=by omega
       have hq2N:∀ (u:World) (i:Nat) (v:Value),(u.setCell ⟨N,i,none⟩ v).cell? (add.add q2)=u.cell? (add.add q2):=fun u i v=>World.cell?_setCell_other _ _ _ _ (fun e=>by have h8:=zyA HP2.out;rw [← e] at h8;exact absurd hN (by have h7:N<w3.heap.size:=h8;omega))
       have hq3N:∀ (u:World) (i:Nat) (v:Value),(u.setCell ⟨N,i,none⟩ v).cell? (add.add q3)=u.cell? (add.add q3):=fun u i v=>World.cell?_setCell_other _ _ _ _ (fun e=>by have h8:=zyA HP3.out;rw [← e] at h8;exact absurd hN (by have h7:N<w3.heap.size:=h8;omega))
       have ha2N:∀ o:Obj,(w5.alloc o).cell? (add.add q2)=some (.int .u8 x2):=fun o=>(World.cell?_alloc_lt _ _ _ (zyA p2)).trans p2
       have hca:∀ (o:Obj) (i:Nat),(w5.alloc o).cell? ⟨N,i,none⟩=w5.cell? ⟨N,i,none⟩:=fun o i=>World.cell?_alloc_old _ _ _ hne1
       have hfa:∀ (o:Obj) (i:Nat),(w5.alloc o).frozen? ⟨N,i,none⟩=false:=fun o i=>(World.frozen?_alloc_old _ _ _ hne1).trans (zM i HB.out)
       have hal:(a.length:Int)≤100000:=by have:=HR.out.2.1.segs;omega
       have haw:IntKind.i64.wrap ((a.length:Int)+1)=(a.length:Int)+1:=IntWalk.i64_in _ (by omega)
       have ha0:¬ ((a.length:Int)+1=0):=by omega
       have ha1:0≤(a.length:Int)+1:=by omega
       clear hN hsz5
       obtain ⟨z0,z1,z2,z3,z4,z5,z6,z7,zf⟩:=zO HB.out
       go_wp2_with fail
       refine (zLA ⟨_,_,_,_,_,_,_,_⟩ _).mono ?_
       rintro e w6 ⟨xx,rr,rfl,hx0,hx1,hg6⟩
       have hg7:Grow w3 w6:=Keep.grow (((HG5.out.setCell (p:=⟨N,1,none⟩) (.inr (Nat.le_of_eq HNN.out)) _).setCell (p:=⟨N,6,none⟩) (.inr (Nat.le_of_eq HNN.out)) _).setCell (p:=⟨N,7,none⟩) (.inr (Nat.le_of_eq HNN.out)) _) hg6
       obtain ⟨ad9,ad2,c2,hA9,hh9,⟨y,hy⟩,hfz,hBk,hst⟩:=(HS3.out.2.grow hg7).store s t9 (by have:=hsn;omega) (by rw [HR.out.1];have:=htl;omega)
       injection hA9 with hA9
       subst hA9
       rw [HR.out.1] at hh9
       have HEND:Hid (BY w a.length (some ada) ca (w6.setCell (ad2.add t9) (.int .u64 xx))):=LH ⟨(HS3.out.1.grow hg7).setCell (.inr hBk) _,by
        obtain ⟨a2,e1,e2,e3,e4⟩:=hst xx hx0 hx1 HR.out.2.1
        exact ⟨a2,e1,e3,by rw [e2];exact HR.out.2.2.1,by rw [e1] at e4;exact e4⟩⟩
       clear hst hBk hg7 hg6 z0 z1 z2 z3 z4 z5 z6 z7 zf p2 p3 hq2N hq3N ha2N hca hfa hal haw ha0 ha1
       go_wp2
       go_roundw
       case rel=>exact ⟨q+4,by omega,by go_num,HEND⟩
       case measure=>simp [intOf];omega
    ·have h1:(q:Int)+3<d.length:=by omega
     have h2:¬ (q:Int)<12:=by omega
     go_wp2
     go_ret
     exact HS.out.elim fun g h=>by
      obtain ⟨a,rfl,ho,hf,hr⟩:=h
      exact ⟨a,Aa,ca,rfl,g,ho,hf,hr⟩
   ·have h1:¬ (q:Int)+3<d.length:=by omega
    go_wp2
    go_ret
    exact HS.out.elim fun g h=>by
     obtain ⟨a,rfl,ho,hf,hr⟩:=h
     exact ⟨a,Aa,ca,rfl,g,ho,hf,hr⟩
end Go.Proofs.YtfkcpaahdlkcdaaGreat
namespace Go.Proofs.YtfkcpaahdlkcdaaGreat
open Go.RowKit Go.Shelf
attribute [local go_sem] Oper.semAt_some
theorem zvE (v:Value) (l:List Int) (w:World) (h:SliceR 1 v l.length (u64s l) w) (hl:l.length≤1000000) :
    Calls Tryz.prog 184 #[v] w fun e w'=>∃ A c,e=.returned (.slice A l.length c)∧w'.ownsRow w.heap.size 22 1 (.slice A l.length c) l.length (u64s l)∧Grow w w':=by
 have Hs:=LH ((h.grow ((Keep.refl _ _).alloc (.cells #[] 22))).src zBA (zlA l))
 have HL:=LH hl
 clear hl
 have hq:=zKE zBA
 obtain ⟨A,c,rfl,hlc,_,hA,_⟩:=h
 cases A with
 | none =>
  have h0:l=[]:=List.eq_nil_of_length_eq_zero (by have:=hA rfl;omega)
  subst h0
  go_enter Tryz.func184,Tryz.ntmps184
  go_wp2
  go_ret
  exact ⟨none,0,rfl,World.ownsRow_nil _ _ _ _,Keep.refl _ _⟩
 | some ad =>
  go_enter Tryz.func184,Tryz.ntmps184
  go_wp2_with (at_builtin;refine zL _ rfl _ _ 111 111 rfl w.heap.size 22 (.int .u64 0) 1 8 zBA ze rfl (.slice (some ⟨w.heap.size,0,none⟩) 0 0) 0 [] rfl (.slice (some ad) l.length c) l.length (u64s l) rfl ?_ ?c0 ?c1 ?c2 ?c3 ?c4;intro v' w' hap)
  case c0=>exact World.ownsRow_made w #[] 0 (Nat.le_refl _) (by simp [maxLen]) rfl
  case c1=>exact Hs.out
  case c2=>have:=HL.out;simp only [maxLen];omega
  case c3=>have:=HL.out;omega
  case c4=>simp
  have ho:=hap.own
  simp only [Nat.zero_add,List.nil_append] at ho
  have hg:=((Keep.refl NoB w).alloc (.cells #[] 22)).grown hap.grew (by simp [Value.ownBlock])
  clear hap
  obtain ⟨A,c2,rfl,_⟩:=zJ ho
  go_wp2
  go_ret
  exact ⟨_,_,rfl,ho,hg⟩
def popN (c:Nat):Nat:=(bitL c).length
theorem pop_le:∀ c:Fin 256,popN c.1≤8:=by decide +kernel
theorem zgH (c:Nat) (hc:c<256) (w:World):Calls Tryz.prog 185 #[.int .u8 c] w fun e w'=>e=.returned (.int .i64 (popN c:Nat))∧w=w':=by
 have h0:(0:Int)≤c:=by omega
 have h1:(c:Int)≤255:=by omega
 go_enter Tryz.func185,Tryz.ntmps185
 go_wp2
 go_ret
 refine ⟨?_,rfl⟩
 have key:∀ x:Int,x=(popN c:Nat)→Ending.returned (Value.int .i64 x)=Ending.returned (.int .i64 (popN c:Nat)):=by rintro _ rfl;rfl
 refine key _ ?_
 have at_:∀ (A:ByteArray) (h:c<A.size),A[c]=A.data.toList.getD c 0:=fun A h=>by
  rw [List.getD_eq_getElem?_getD,List.getElem?_eq_getElem (by simpa using h)]
  rfl
 rw [at_]
 clear at_ key
 obtain ⟨d,rfl⟩:∃ d:Fin 256,d.1=c:=⟨⟨c,hc⟩,rfl⟩
 rename_i hx;clear hx h0 h1 hc;revert d
 decide +kernel
def popB (bs:List Int):Nat:=(eachL bs).length
theorem zfE (bs:List Int) (k:Nat):(eachT bs (k+1)).length=(eachT bs k).length+popN (bs.getD k 0).toNat:=by
 rw [zcH,List.length_append,List.length_map];rfl
theorem zsF (bs:List Int) (hb:OkB bs):∀ k,(eachT bs k).length≤8*k
 | 0=>by simp [eachT]
 | k + 1 => by
  rw [zfE]
  have h1:=zsF bs hb k
  have h2:(bs.getD k 0).toNat<256:=by
   rw [List.getD_eq_getElem?_getD]
   cases h:bs[k]? with
   | none=>simp
   | some x =>
    have:=hb x (List.mem_of_getElem? h)
    simp
    omega
  have h3:=pop_le ⟨_,h2⟩
  dsimp only at h3
  omega
theorem zoB (A:Option Addr) (c:Nat) (bs:List Int) (hb:OkB bs) (hlen:bs.length≤100000) (w:World) (h:SliceR 1 (.slice A bs.length c) bs.length (u8s bs) w) :
    Calls Tryz.prog 116 #[.slice A bs.length c] w fun e w'=>e=.returned (.int .i64 (popB bs:Nat))∧w=w':=by
 have H:=LH h
 have HB:=LH hb
 clear h hb
 go_enter Tryz.func116,Tryz.ntmps116
 go_wp2
 go_loopw [3,5,8] (fun vn vc v wr=>wr=w∧∃ (k n:Nat),k≤bs.length∧v=.int .i64 k∧vn=.int .i64 n∧Hid (n=(eachT bs k).length)∧n≤8*k) (fun _ _ v _=>bs.length-(intOf v).toNat)
 case atStart=>exact ⟨rfl,0,0,by omega,rfl,rfl,LH (by simp [eachT]),by omega⟩
 case round =>
  obtain ⟨rfl,k,n,hk,rfl,rfl,HN,hn8⟩:=hrel
  by_cases hlt:k<bs.length
  ·have hlt':(k:Int)<bs.length:=by omega
   have hw:IntKind.i64.wrap ((k:Int)+1)=(k:Int)+1:=IntWalk.i64_in _ (by omega)
   obtain ⟨ad,rfl,q0⟩:=SliceR.int_at (k:=.u8) H.out k hlt
   have hx:=HB.out _ (List.getElem_mem hlt)
   obtain ⟨c0,hc0⟩:∃ c0:Nat,bs[k]=c0:=⟨bs[k].toNat,by omega⟩
   have hbd:(bs.getD k 0).toNat=c0:=by rw [List.getD_eq_getElem?_getD,List.getElem?_eq_getElem hlt,Option.getD_some,hc0];rfl
   have hlen2:=zfE bs k
   have hle2:=zsF bs HB.out (k+1)
   rw [hbd] at hlen2
   rw [hc0] at q0
   have hc256:c0<256:=by omega
   have HE:Hid (n+popN c0=(eachT bs (k+1)).length∧n+popN c0≤8*(k+1)):=LH (by have:=HN.out;omega)
   have hw2:IntKind.i64.wrap ((n:Int)+(popN c0:Nat))=(n:Int)+(popN c0:Nat):=IntWalk.i64_in _ (by have:=HE.out;omega)
   clear hx hc0 hbd hlen2 hle2 HN
   go_wp2_with fail
   refine (zgH c0 hc256 wr).mono ?_
   rintro e w1 ⟨rfl,rfl⟩
   go_wp2
   go_roundw
   case rel=>exact ⟨trivial,k+1,n+popN c0,by omega,by go_num,by go_num,LH HE.out.1,HE.out.2⟩
   case measure=>simp [intOf];omega
  ·obtain rfl:k=bs.length:=by omega
   have hlt':¬ ((bs.length:Int)<bs.length):=by omega
   have HE:Hid ((popB bs:Nat)=n):=LH (by rw [HN.out];rfl)
   clear HN
   go_wp2
   go_ret
   exact ⟨by rw [HE.out];rfl,rfl⟩
def sizeN (l:List Int) (i:Nat):Int:=min 64 (8*l.sum-64*i)
theorem zUD (session:Int) (sum:Nat) (A:Option Addr) (c:Nat) (l:List Int) (w:World) (h:SliceR 1 (.slice A l.length c) l.length (ints l) w) (hf:fitsB l=true) (i:Nat) (hi:i<chunksN l) :
    Calls Tryz.prog 168 #[.agg #[.int .u64 session,.slice A l.length c,.int .u32 (sum:Nat)],.int .i64 i] w fun e w'=>e=.returned (.int .i64 (sizeN l i))∧Grow w w':=by
 have HG:=LH ((Keep.refl NoB w).alloc (.cells #[.int .u64 session,.slice A l.length c,.int .u32 (sum:Nat)] 40))
 have H:=LH (h.grow HG.out)
 have HC:=LH (heap_alloc_new w (.cells #[.int .u64 session,.slice A l.length c,.int .u32 (sum:Nat)] 40))
 have HF:=LH hf
 obtain ⟨m0,m1,m2,mf⟩:=zI HC.out
 obtain ⟨hl1,hl2,hnn,hsum⟩:=zN hf
 have hq:chunksN l≤512:=by unfold chunksN;omega
 have hs0:0≤l.sum:=by have:=zeA hnn;omega
 have hi0:0≤(i:Int):=by omega
 have hi0':¬ ((i:Int)<0):=by omega
 have hi1:¬ ((chunksN l:Int)≤(i:Int)):=by omega
 clear h hf hnn
 go_enter Tryz.func168,Tryz.ntmps168
 go_wp2_with fail
 refine (zd session sum A c l _ H.out HF.out).mono ?_
 rintro e w1 ⟨rfl,hg⟩
 replace HG:=LH (HG.out.grow hg)
 replace H:=LH (H.out.grow hg)
 replace HC:=LH (Grow.heap hg HC.out)
 clear hg m0 m1 m2 mf
 obtain ⟨m0,m1,m2,mf⟩:=zI HC.out
 go_wp2_with fail
 refine (zPA session sum A c l _ H.out HF.out).mono ?_
 rintro e w2 ⟨rfl,hg⟩
 replace HG:=LH (HG.out.grow hg)
 have hw1:IntKind.i64.wrap (l.sum*8)=l.sum*8:=IntWalk.i64_in _ (by omega)
 have hw2:IntKind.i64.wrap ((i:Int)*64)=(i:Int)*64:=IntWalk.i64_in _ (by omega)
 have hw3:IntKind.i64.wrap (l.sum*8-(i:Int)*64)=l.sum*8-(i:Int)*64:=IntWalk.i64_in _ (by omega)
 have HE:Hid (sizeN l i=min 64 (l.sum*8-(i:Int)*64)):=LH (by unfold sizeN;omega)
 clear hg
 by_cases hm:64≤l.sum*8-(i:Int)*64
 ·have HM:Hid (min 64 (l.sum*8-(i:Int)*64)=64):=LH (by omega)
  go_wp2
  go_ret
  refine ⟨?_,HG.out⟩
  rw [HE.out,HM.out]
  rfl
 ·have HM:Hid (min 64 (l.sum*8-(i:Int)*64)=l.sum*8-(i:Int)*64):=LH (by omega)
  go_wp2
  go_ret
  refine ⟨?_,HG.out⟩
  rw [HE.out,HM.out]
  rfl
end Go.Proofs.YtfkcpaahdlkcdaaGreat
namespace Go.Proofs.YtfkcpaahdlkcdaaGreat
open Go.RowKit Go.Shelf
attribute [local go_sem] Oper.semAt_some
theorem zhH (A:Option Addr) (n c:Nat) (w:World) :
    Calls Tryz.prog 221 #[.slice A n c] w fun e w'=>e=.returned (.func (.func 255) #[] #[.pointer (some ⟨w.heap.size,0,none⟩)])∧w'=w.alloc (.cells #[.slice A n c] 23):=by
 go_enter Tryz.func221,Tryz.ntmps221
 go_wp2
 go_ret
 exact ⟨rfl,rfl⟩
def backV (bs:List Int) (x:Nat):Array Value:=#[.int .i64 ((bs.length-1-x:Nat):Int),.int .u8 (bs.getD (bs.length-1-x) 0)]
theorem zCK (F:Fence) (n:Nat) (h7:F.fn 255) (hro:F.round=none) (hn:1≤n) (l Bs:Nat) (bs:List Int) (hlen:bs.length≤100000) (A:Option Addr) (c:Nat) (Kp:World→World→Prop) (hKt:∀ {a b c:World},Kp a b→Kp b c→Kp a c) (w0:World)
    (hKs:∀ W,Kp w0 W→W.cell? ⟨Bs,0,none⟩=some (.slice A bs.length c)∧SliceR 1 (.slice A bs.length c) bs.length (u8s bs) W) (J Jx:List Nat→World→Prop)
    (hY:∀ pre x W,J pre W→pre.length<bs.length→YieldAt F (n-1) Tryz.prog l (backV bs x) W fun e W' =>
     (e=.returned (.bool true)∧J (pre++[x]) W'∧Kp W W')∨(e=.returned (.bool false)∧Jx (pre++[x]) W'))
    (W:World) (hW:Kp w0 W) (h0:J [] W) :
    CallsIn F n Tryz.prog 255 #[.func (.yield l) #[] #[],.pointer (some ⟨Bs,0,none⟩)] W fun e W'=>(∃ v,e=.returned v) ∧
     ((∃ ys,ys=upto (fun k=>k) bs.length∧J ys W')∨(∃ pre,(∃ k,k≤bs.length∧pre=upto (fun k=>k) k)∧Jx pre W')):=by
 have HKS:=LH hKs
 have HKT:=LH (show ∀ a b c:World,Kp a b→Kp b c→Kp a c from fun a b c=>hKt)
 have hc0:=(hKs W hW).1
 have hwl:IntKind.i64.wrap ((bs.length:Int)-1)=(bs.length:Int)-1:=IntWalk.i64_in _ (by omega)
 refine callsIn_of_wp Tryz.func255 rfl h7 ?_ hro
 simp only [Tryz.ntmps255,List.size_toArray,List.length_cons,List.length_nil,Nat.reduceAdd,Nat.reduceSub,Array.replicate_succ,Array.replicate_zero,List.push_toArray,List.append_toArray,List.nil_append,List.cons_append]
 clear hKs hKt
 gi_wp2
 clear hc0 hwl
 gi_loopw [3] (fun p wr=>∃ (k:Nat) (z:Int),k≤bs.length∧z=(bs.length:Int)-1-k∧p=.int .i64 z∧Hid (J (upto (fun k=>k) k) wr∧Kp w0 wr)) (fun p _=>(intOf p+1).toNat)
 case atStart=>exact ⟨0,_,Nat.zero_le _,by simp,rfl,h0,hW⟩
 case round =>
  obtain ⟨k,z,hk,hz,rfl,HJ⟩:=hrel
  obtain ⟨q1,hs⟩:=HKS.out wr HJ.out.2
  by_cases hlt:k<bs.length
  ·obtain ⟨j,rfl⟩:∃ j:Nat,z=j:=⟨z.toNat,by omega⟩
   have hj:bs.length-1-k=j:=by omega
   have hjl:j<bs.length:=by omega
   obtain ⟨ad,rfl,q2⟩:=SliceR.int_at (k:=.u8) hs j hjl
   obtain ⟨fn,tmps,assign,body,hy,hRR⟩:=hY _ k wr HJ.out.1 (by rw [zhA];exact hlt)
   unfold backV at hy
   have hg:bs.getD j 0=bs[j]:=by simp [List.getD_eq_getElem?_getD,hjl]
   rw [hj,hg] at hy
   have HRR:=LH hRR
   have hj0:0≤(j:Int):=by omega
   have hjl':(j:Int)<bs.length:=by omega
   have hwj:IntKind.i64.wrap ((j:Int)-1)=(j:Int)-1:=IntWalk.i64_in _ (by omega)
   have HZ:=LH hz
   clear hRR hs hz hj hg
   gi_wp2
   refine HRR.out.mono ?_
   rintro e W3 (⟨rfl,hJ3,hk3⟩ | ⟨rfl,hJx3⟩)
   ·have HJ3:Hid (J (upto (fun k=>k) (k+1)) W3∧Kp w0 W3):=LH ⟨by rw [zWA];exact hJ3,HKT.out _ _ _ HJ.out.2 hk3⟩
    clear hJ3 hk3 q1 q2
    gi_wp2
    go_roundw
    case rel=>exact ⟨k+1,(j:Int)-1,by omega,by have:=HZ.out;omega,rfl,HJ3⟩
    case measure=>simp [intOf]
   ·have HX:=LH hJx3
    clear hJx3
    gi_wp2
    refine bodyPost_ret (results_none rfl _ _ _) rfl ?_
    exact ⟨⟨_,rfl⟩,.inr ⟨_,⟨k+1,hlt,(zWA _ _).symm⟩,HX.out⟩⟩
  ·obtain rfl:k=bs.length:=by omega
   have hz0:¬ (0≤z):=by omega
   have HJ2:=LH HJ.out.1
   clear HJ hz
   gi_wp2
   go_end0
   exact ⟨⟨_,rfl⟩,.inl (by simpa using HJ2.out)⟩
theorem ziH (F:Fence) (n:Nat) (h7:F.fn 255) (hro:F.round=none) (hn:1≤n) (bs:List Int) (hlen:bs.length≤100000) (A:Option Addr) (c:Nat) (w0:World) (hR:SliceR 1 (.slice A bs.length c) bs.length (u8s bs) w0) (Bs:Nat) (w:World) (hw:Below w0.heap.size w0 w)
    (hBs:Boxed w Bs 23 (.slice A bs.length c)) :
    SeqStopsK F n Tryz.prog 255 #[.pointer (some ⟨Bs,0,none⟩)] (backV bs) (KeepB w0.heap.size (fun k=>k=Bs)) (fun ys=>ys=upto (fun k=>k) bs.length)
     (fun pre=>∃ k,k≤bs.length∧pre=upto (fun k=>k) k) bs.length w:=fun l J Jx W hW _ _ hY h0 =>
 zCK F n h7 hro hn l Bs bs hlen A c (KeepB w0.heap.size (fun k=>k=Bs)) (fun h k=>h.trans k) W
  (fun W' hK=>⟨Boxed.cell (t:=23) ((hK.same _ rfl).trans ((hW.block Bs hBs.lt).trans hBs)),hR.grow (Keep.of_below ((hw.trans (hW.mono hw.size)).trans hK.below))⟩) J Jx hY W (KeepB.refl _ _ _) h0
def leW:List Int→Int
 | []=>0
 | b :: r=>b+256*leW r
def valP (bs:List Int) (pre:List Nat):Int:=pre.foldl (fun n x=>n*256+bs.getD (bs.length-1-x) 0) 0
theorem zrC (bs:List Int) (pre:List Nat) (x:Nat):valP bs (pre++[x])=valP bs pre*256+bs.getD (bs.length-1-x) 0:=by simp [valP]
theorem zEH {bs:List Int} (hb:OkB bs) (i:Nat):0≤bs.getD i 0∧bs.getD i 0≤255:=by
 rw [List.getD_eq_getElem?_getD]
 cases h:bs[i]? with
 | none=>simp
 | some x=>exact hb x (List.mem_of_getElem? h)
theorem zQE {bs:List Int} (hb:OkB bs):∀ (m:Nat) (pre:List Nat),pre.length=m→0≤valP bs pre∧valP bs pre<256 ^ m
 | 0,pre,h=>by
  obtain rfl:pre=[]:=List.eq_nil_of_length_eq_zero h
  simp [valP]
 | m+1,pre,h=>by
  have hne:pre≠[]:=fun e=>by rw [e] at h;simp at h
  obtain ⟨p,x,rfl⟩:∃ p x,pre=p++[x]:=⟨pre.dropLast,pre.getLast hne,(List.dropLast_concat_getLast hne).symm⟩
  have ih:=zQE hb m p (by simpa using h)
  have hx:=zEH hb (bs.length-1-x)
  rw [zrC]
  have e:(256:Int) ^ (m+1)=256 ^ m*256:=Int.pow_succ ..
  rw [e]
  omega
theorem ztF (bs:List Int):∀ k,k≤bs.length→valP bs (upto (fun k=>k) k)=leW (bs.drop (bs.length-k))
 | 0,_=>by simp [valP,upto,leW]
 | k+1,h=>by
  rw [zWA,zrC,ztF bs k (by omega)]
  have hl:bs.length-(k+1)<bs.length:=by omega
  rw [show bs.drop (bs.length-(k+1))=bs[bs.length-(k+1)] :: bs.drop (bs.length-(k+1)+1) from List.drop_eq_getElem_cons hl]
  rw [show bs.length-(k+1)+1=bs.length-k from by omega]
  simp only [leW]
  rw [show bs.length-1-k=bs.length-(k+1) from by omega,List.getD_eq_getElem?_getD,List.getElem?_eq_getElem hl]
  simp
  omega
theorem zFH (bs:List Int):valP bs (upto (fun k=>k) bs.length)=leW bs:=by
 rw [ztF bs bs.length (Nat.le_refl _)];simp
theorem zLL {bs:List Int} (hb:OkB bs) (h8:bs.length≤8):0≤leW bs∧leW bs≤18446744073709551615:=by
 have h:=zQE hb bs.length (upto (fun k=>k) bs.length) (zhA _ _)
 rw [zFH] at h
 have h2:(256:Int) ^ bs.length≤256 ^ 8:=by
  have:=Nat.pow_le_pow_right (show 0<256 by decide) h8
  have e:((256 ^ bs.length:Nat):Int)=(256:Int) ^ bs.length:=by rw [Int.natCast_pow];rfl
  have e8:((256 ^ 8:Nat):Int)=(256:Int) ^ 8:=by rw [Int.natCast_pow];rfl
  omega
 have h3:(256:Int) ^ 8=18446744073709551616:=by decide
 omega
theorem zML {v b:Int} (h0:0≤v) (h1:v≤72057594037927935) (h2:0≤b) (h3:b≤255):bits .or .u64 (v*256) b=v*256+b:=by
 obtain ⟨n,rfl⟩:∃ n:Nat,v=n:=⟨v.toNat,by omega⟩
 obtain ⟨m,rfl⟩:∃ m:Nat,b=m:=⟨b.toNat,by omega⟩
 have h8:(2:Nat) ^ 8=256:=rfl
 have h:=Nat.two_pow_add_eq_or_of_lt (i:=8) (b:=m) (by rw [h8];omega) n
 rw [h8] at h
 have e:(n:Int)*256=((256*n:Nat):Int):=by omega
 rw [e,u64_or_nat (256*n) m (by omega) (by omega),← h]
 omega
theorem zjH (ad:Addr) (c:Nat) (l:List Int) (hb:OkB l) (h8:l.length≤8) (w:World) (hR:SliceR 1 (.slice (some ad) l.length c) l.length (u8s l) w) :
    Calls Tryz.prog 170 #[.slice (some ad) l.length c] w fun e w'=>e=.returned (.int .u64 (leW l))∧Grow w w':=by
 have hmin:min ((l.length:Nat):Int) 8=l.length:=by omega
 have hcap:l.length≤c:=by
  obtain ⟨A',c',e,hc,_,hA,_⟩:=hR
  injection e with e1 e2 e3
  subst e3
  exact hc
 have hin:0≤(l.length:Int)∧(l.length:Int)≤c:=by omega
 refine (callsIn_wide (n:=3)).1 ?_
 refine callsIn_of_wp_marks Tryz.func170 rfl trivial ?_ rfl
 simp only [Tryz.ntmps170,List.size_toArray,List.length_cons,List.length_nil,Nat.reduceAdd,Nat.reduceSub,Array.replicate_succ,Array.replicate_zero,List.push_toArray,List.append_toArray,List.nil_append,List.cons_append]
 gi_wp2_with (refine ⟨trivial,?_⟩;gi_at_call 221;refine (callsIn_wide.2 (zhH (some ad) l.length c _)).mono ?_;rintro e w' ⟨rfl,rfl⟩)
 have bN:=Boxed.new w 22 (.int .u64 0)
 have bS:=Boxed.new (w.alloc (.cells #[.int .u64 0] 22)) 23 (.slice (some ad) l.length c)
 have c1:=bN.alloc (.cells #[.slice (some ad) l.length c] 23)
 simp only [World.size_alloc] at bS
 have hB0:Below w.heap.size w ((w.alloc (.cells #[.int .u64 0] 22)).alloc (.cells #[.slice (some ad) l.length c] 23)):=((Below.refl _ w).alloc (Nat.le_refl _) _).alloc (by simp) _
 obtain ⟨W0,hW0⟩:∃ W0,((w.alloc (.cells #[.int .u64 0] 22)).alloc (.cells #[.slice (some ad) l.length c] 23))=W0:=⟨_,rfl⟩
 have hsz:W0.heap.size=w.heap.size+2:=by rw [← hW0];simp
 rw [hW0] at c1 bS hB0 ⊢
 clear hW0 bN
 refine wpIn_rangeFunc_ownG rfl (show 1≤3 by omega) (gf:=255) (lb:=#[.pointer (some ⟨w.heap.size+1,0,none⟩)]) rfl trivial (enters_of Tryz.func255 (by kernel_rfl) rfl)
  (ziH Fence.wide _ trivial rfl (by omega) l (by omega) (some ad) c w hR (w.heap.size+1) W0 hB0 bS) (fun h k=>h.trans k) (KeepB.put (by omega) (by intro k hk;omega)) (Below.refl _ _) (fun _=>rfl)
  (fun pre W=>Boxed W w.heap.size 22 (.int .u64 (valP l pre))∧Below w.heap.size w W)
  (fun _ _ _=>False)
  (fun s W W' row hs hg hr=>⟨hs.1.kept hg (fun e=>by have:=(hr _ e.symm).1;omega),ownFrom_below (β:=Unit) (Nat.le_refl _) (show w.heap.size≤W0.heap.size by omega) () W W' row hs.2 hg hr⟩)
  (fun _ _ _ _ _ hs _ _=>hs)
  ⟨c1,hB0⟩
  (fun x=>{ tmps:=#[.slice (some ad) l.length c,undef,.int .u64 0,.pointer (some ⟨w.heap.size,0,none⟩),undef,.int .u8 (l.getD (l.length-1-x) 0),.slice (some ad) l.length c,.slice (some ad) l.length c,.int .i64 l.length,.int .i64 l.length,.slice (some ad) l.length c,.func (.func 255) #[] #[.pointer (some ⟨w.heap.size+1,0,none⟩)],.int .i64 ((l.length-1-x:Nat):Int),.int .u8 (l.getD (l.length-1-x) 0),undef,undef,undef,undef,undef,undef],defers:=[] }) ?assign ?body ?done ?stop
 case assign =>
  intro l' x W K hK
  unfold backV
  gi_wp2
  exact hK
 case body =>
  rintro l' pre x W ⟨hN,hB⟩ hlt
  have hx:=zEH hb (l.length-1-x)
  have hv:=zQE hb pre.length pre rfl
  have hp7:(256:Int) ^ pre.length≤256 ^ 7:=by
   have:=Nat.pow_le_pow_right (show 0<256 by decide) (show pre.length≤7 by omega)
   have e:((256 ^ pre.length:Nat):Int)=(256:Int) ^ pre.length:=by rw [Int.natCast_pow];rfl
   have e8:((256 ^ 7:Nat):Int)=(256:Int) ^ 7:=by rw [Int.natCast_pow];rfl
   omega
  have h3:(256:Int) ^ 7=72057594037927936:=by decide
  have HS:=LH (zrC l pre x)
  obtain ⟨v,hvv⟩:∃ v,valP l pre=v:=⟨_,rfl⟩
  obtain ⟨b,hbb⟩:∃ b,l.getD (l.length-1-x) 0=b:=⟨_,rfl⟩
  rw [hvv,hbb] at HS
  rw [hbb] at hx ⊢
  rw [hvv] at hv hN
  have hv1:v≤72057594037927935:=by omega
  have hv0:=hv.1
  have hb0:=hx.1
  have hb1:=hx.2
  have q1:=hN.cell
  have f1:=hN.frozen
  have HN:=LH hN
  have HB:=LH hB
  clear hvv hbb hv hx hp7 h3 hN hB
  gi_wp2
  refine ⟨(KeepsOthers.setCell _ _ _).from _,(KeepB.refl _ _ _).set (Nat.le_refl _) (by intro k hk;omega) _,?_,HB.out.setCell (p:=⟨w.heap.size,0,none⟩) (Nat.le_refl _) _⟩
  rw [HS.out,zML hv0 hv1 hb0 hb1]
  exact HN.out.set _
 case done =>
  rintro D ys W hD rfl ⟨hN,hB⟩ hK
  rw [zFH] at hN
  have hc:=hN.cell
  gi_wp2
  have hc2:=(hN.kept (grownBy_putObj' W D (.deferred none)) (fun e=>by injection e;omega)).cell
  refine ⟨by simp,.inl ⟨_,_,rfl,run_takeDeferred hK,?_⟩⟩
  refine ⟨_,results_tmp rfl _ _ _,rfl,Keep.of_below (hB.trans (belowK_b (w:=w) (Nat.le_refl _) W D _ _ (by omega) hK rfl rfl))⟩
 case stop =>
  rintro D c' pre W _ _ h _
  exact h.elim
end Go.Proofs.YtfkcpaahdlkcdaaGreat
namespace Go.Proofs.YtfkcpaahdlkcdaaGreat
open Go.RowKit Go.Shelf
attribute [local go_sem] Oper.semAt_some
theorem zSA {w:World} {g T:Nat} {a0 a1 a2 a3 a4 a5:Value} (h:w.heap[g]? = some (.cells #[a0,a1,a2,a3,a4,a5] T (0,0))):w.cell? ⟨g,0,none⟩=some a0∧w.cell? ⟨g,1,none⟩=some a1∧w.cell? ⟨g,2,none⟩=some a2∧w.cell? ⟨g,3,none⟩=some a3∧w.cell? ⟨g,4,none⟩=some a4∧w.cell? ⟨g,5,none⟩=some a5∧∀ o,w.frozen? ⟨g,o,none⟩=false :=
 ⟨World.news_of_block h 0 _ rfl,World.news_of_block h 1 _ rfl,World.news_of_block h 2 _ rfl,World.news_of_block h 3 _ rfl,World.news_of_block h 4 _ rfl,World.news_of_block h 5 _ rfl,fun o=>zM o h⟩
structure Par where
 session:Int
 sz:List Int
 sum:Nat
 words:List Int
 known:List Int
structure PP where
 As:Option Addr
 cs:Nat
 wb:Nat
 cw:Nat
 Ak:Option Addr
 ck:Nat
structure OkP (d:Par):Prop where
 s0:0≤d.session
 s1:d.session≤18446744073709551615
 sum:d.sum<4294967296
 fit:fitsB d.sz=true
 wlen:(d.words.length:Int)=d.sz.sum
 win:∀ x∈d.words,0≤x∧x≤18446744073709551615
 known:OkB d.known
 klen:d.known.length=(chunksN d.sz+7)/8
structure PAt (b:Nat) (p:PP) (d:Par) (G:Nat→Prop) (w:World):Prop where
 cell:w.heap[b]? = some (.cells #[.int .u64 d.session,.slice p.As d.sz.length p.cs,.int .u32 (d.sum:Nat),.slice p.As d.sz.length p.cs,.slice (some ⟨p.wb,0,none⟩) d.words.length p.cw,.slice p.Ak d.known.length p.ck] 247 (0,0))
 row:w.ownsRow 0 22 1 (.slice (some ⟨p.wb,0,none⟩) d.words.length p.cw) d.words.length (u64s d.words)
 ro:Foot (fun w=>SliceR 1 (.slice p.As d.sz.length p.cs) d.sz.length (ints d.sz) w∧SliceR 1 (.slice p.Ak d.known.length p.ck) d.known.length (u8s d.known) w) w G
 dis:b≠p.wb∧¬ G b∧¬ G p.wb
 ok:OkP d
theorem PAt.keep {b:Nat} {p:PP} {d:Par} {G S:Nat→Prop} {w w':World} (h:PAt b p d G w) (hk:Keep S w w') (hb:¬ S b) (hw:¬ S p.wb) (hG:∀ k,G k→¬ S k):PAt b p d G w' :=
 ⟨(hk.block b (gE h.cell).1 hb).trans h.cell,zE h.row hk (fun k hq=>by cases hq;exact hw),h.ro.keep hk hG,h.dis,h.ok⟩
theorem PAt.grow {b:Nat} {p:PP} {d:Par} {G:Nat→Prop} {w w':World} (h:PAt b p d G w) (hk:Grow w w'):PAt b p d G w':=h.keep hk (fun h=>h) (fun h=>h) (fun _ _ h=>h)
theorem PAt.lt {b:Nat} {p:PP} {d:Par} {G:Nat→Prop} {w:World} (h:PAt b p d G w):b<w.heap.size∧p.wb<w.heap.size:=⟨(gE h.cell).1,(h.row.lt p.wb rfl).2⟩
def setN (ws:List Int) (i:Nat) (bs:List Int):Nat→List Int
 | 0=>ws
 | k+1=>(setN ws i bs k).set (i*8+k) (leW (pieceL bs 8 k))
def setP (ws:List Int) (i:Nat) (bs:List Int) (pre:List Nat):List Int:=(List.range pre.length).foldl (fun l k=>l.set (i*8+k) (leW (pieceL bs 8 (pre.getD k 0)))) ws
theorem zgE (ws:List Int) (i:Nat) (bs:List Int) (pre:List Nat) (x:Nat):setP ws i bs (pre++[x])=(setP ws i bs pre).set (i*8+pre.length) (leW (pieceL bs 8 x)):=by
 unfold setP
 rw [List.length_append,List.length_singleton,List.range_succ,List.foldl_append]
 have e:∀ (m:Nat) (l:List Int),m≤pre.length→(List.range m).foldl (fun l k=>l.set (i*8+k) (leW (pieceL bs 8 ((pre++[x]).getD k 0)))) l=(List.range m).foldl (fun l k=>l.set (i*8+k) (leW (pieceL bs 8 (pre.getD k 0)))) l:=by
  intro m
  induction m with
  | zero=>intro l _;rfl
  | succ m ih =>
   intro l hm
   rw [List.range_succ,List.foldl_append,List.foldl_append,ih l (by omega)]
   have e2:(pre++[x]).getD m 0=pre.getD m 0:=by
    rw [List.getD_eq_getElem?_getD,List.getD_eq_getElem?_getD,List.getElem?_append_left (by omega)]
   simp only [List.foldl_cons,List.foldl_nil,e2]
 rw [e _ _ (Nat.le_refl _)]
 have e3:(pre++[x]).getD pre.length 0=x:=by simp [List.getD_eq_getElem?_getD]
 simp only [List.foldl_cons,List.foldl_nil,e3]
theorem zhE (ws:List Int) (i:Nat) (bs:List Int):∀ m,setP ws i bs (upto (fun k=>k) m)=setN ws i bs m
 | 0=>rfl
 | m+1=>by
  rw [zWA,zgE,zhE ws i bs m,zhA]
  rfl
theorem zNA (ws:List Int) (i:Nat) (bs:List Int):∀ m,(setN ws i bs m).length=ws.length
 | 0=>rfl
 | m+1=>by unfold setN;rw [List.length_set];exact zNA ws i bs m
theorem zBC (ws:List Int) (i:Nat) (bs:List Int) (pre:List Nat):(setP ws i bs pre).length=ws.length:=by
 unfold setP
 generalize List.range pre.length=r
 induction r generalizing ws with
 | nil=>rfl
 | cons x r ih=>rw [List.foldl_cons,ih,List.length_set]
theorem zDK (l:List Int) (i:Nat) (x:Int):(u64s l).set i (.int .u64 x)=u64s (l.set i x):=by
 simp [u64s,List.map_set]
theorem zuK (bs:List Int) (k:Nat):(pieceL bs 8 k).length≤8:=by rw [zHA];unfold chL;omega
theorem OkB.piece {bs:List Int} (h:OkB bs) (each k:Nat):OkB (pieceL bs each k):=fun c hc=>h c (List.mem_of_mem_drop (List.mem_of_mem_take hc))
def putD (d:Par) (i:Nat) (bs:List Int):Par:=if getB d.known i=true then d else { d with words:=setN d.words i bs (bs.length/8),known:=setB d.known i }
theorem zGH {ws:List Int} (hw:∀ x∈ws,0≤x∧x≤18446744073709551615) {bs:List Int} (hb:OkB bs) (i:Nat):∀ m,∀ x∈setN ws i bs m,0≤x∧x≤18446744073709551615
 | 0=>hw
 | m+1=>fun x hx=>by
  unfold setN at hx
  rcases List.mem_or_eq_of_mem_set hx with h | rfl
  ·exact zGH hw hb i m x h
  ·exact zLL (hb.piece 8 m) (zuK bs m)
theorem zvK {base e size n:Nat} {A:Option Addr} {m c:Nat} {xs:List Value} {w:World} (h:w.ownsRow base e size (.slice A m c) n xs):n≤c:=by
 obtain ⟨A',c',e',hc,_⟩:=zJ h
 injection e' with _ _ e3
 subst e3
 exact hc
theorem zsC (g j:Nat):(⟨g,0,none⟩:Addr).add j=⟨g,j,none⟩:=by
 unfold Addr.add
 split
 ·rename_i h;rw [h]
 ·simp
theorem KeepB.setAt {B:Nat} {X:Nat→Prop} {a c:World} (h:KeepB B X a c) {p:Addr} (hg:B≤p.block) (hX:∀ k,X k→k≠p.block) (u:Value):KeepB B X a (c.setCell p u) :=
 ⟨h.below.setCell hg u,fun k hk=>(Below.heap_setCell c p u k (hX k hk)).trans (h.same k hk)⟩
theorem KeepB.grow {B:Nat} {X:Nat→Prop} {a c w:World} (h:KeepB B X a c) (hB:B≤c.heap.size) (hX:∀ k,X k→k<c.heap.size) (hg:Grow c w):KeepB B X a w :=
 h.trans ⟨hg.below B hB (fun _ h=>h.elim),fun k hk=>hg.block k (hX k hk) (fun h=>h)⟩
theorem Boxed.away {W:World} {B:Nat} {t:TypeId} {v:Value} (h:Boxed W B t v) (p:Addr) (hne:B≠p.block) (u:Value):Boxed (W.setCell p u) B t v:=(Below.heap_setCell W p u B hne).trans h
theorem zeD {b:Nat} {p:PP} {d:Par} {G:Nat→Prop} {w:World} (h:PAt b p d G w) (i:Nat) (hi:i<chunksN d.sz) (hgb:getB d.known i=false) (A:Option Addr) (c:Nat) (bs:List Int) (hb:OkB bs) (hl:(bs.length:Int)=sizeN d.sz i) (FS:Nat→Prop) (hS:Foot (SliceR 1 (.slice A bs.length c) bs.length (u8s bs)) w FS) (hF:∀ k,FS k→k≠p.wb) :
    Calls Tryz.prog 106 #[.pointer (some ⟨b,0,none⟩),.int .i64 (i:Nat),.slice A bs.length c] w fun e w'=>e=.returned (.bool true)∧∃ p' G',p'.wb=p.wb∧PAt b p' { d with words:=setN d.words i bs (bs.length/8),known:=setB d.known i } G' w'∧Keep (fun k=>k=b∨k=p.wb) w w'∧∀ k,G' k→G k∨w.heap.size≤k:=by
 obtain ⟨c0,c1,c2,c3,c4,c5,cf⟩:=zSA h.cell
 have hq:chunksN d.sz≤512:=by have:=zN h.ok.fit;unfold chunksN;omega
 have hi0:¬ ((i:Int)<0):=by omega
 have hi1:¬ ((chunksN d.sz:Int)≤(i:Int)):=by omega
 have hi2:decide (chunksN d.sz≤i)=false:=decide_eq_false (by omega)
 have hne:((bs.length:Int) != sizeN d.sz i)=false:=by rw [hl];simp
 have HP:=LH h
 have HSS:=LH hS
 have HGB:=LH hgb
 have HB:=LH hb
 have HL:=LH hl
 have HI:=LH hi
 have HFS:=LH hF
 clear h hS hgb hb hl hF hi
 refine (callsIn_wide (n:=3)).1 ?_
 refine callsIn_of_wp_marks Tryz.func106 rfl trivial ?_ rfl
 simp only [Tryz.ntmps106,List.size_toArray,List.length_cons,List.length_nil,Nat.reduceAdd,Nat.reduceSub,Array.replicate_succ,Array.replicate_zero,List.push_toArray,List.append_toArray,List.nil_append,List.cons_append]
 gi_wp2_with (refine ⟨trivial,?_⟩;gi_at_call 64;refine (callsIn_wide.2 (zd d.session d.sum p.As p.cs d.sz _ HP.out.ro.now.1 HP.out.ok.fit)).mono ?_;rintro e w1 ⟨rfl,hg⟩;refine Hid.out ?_)
 have HG:=LH hg
 refine LH ?_
 replace HP:=LH (HP.out.grow hg)
 clear hg c0 c1 c2 c3 c4 c5 cf
 obtain ⟨c0,c1,c2,c3,c4,c5,cf⟩:=zSA HP.out.cell
 gi_wp2_with (refine ⟨trivial,?_⟩;gi_at_call 168;refine (callsIn_wide.2 (zUD d.session d.sum p.As p.cs d.sz _ HP.out.ro.now.1 HP.out.ok.fit i HI.out)).mono ?_;rintro e w2 ⟨rfl,hg⟩;refine Hid.out ?_)
 replace HG:=LH (HG.out.grow hg)
 refine LH ?_
 replace HP:=LH (HP.out.grow hg)
 clear hg c0 c1 c2 c3 c4 c5 cf
 obtain ⟨c0,c1,c2,c3,c4,c5,cf⟩:=zSA HP.out.cell
 have hbg:=zvA p.Ak p.ck d.known HP.out.ok.known i (by omega) w2 HP.out.ro.now.2
 rw [HGB.out] at hbg
 have HBG:=LH hbg
 clear hbg
 have hwl:=HP.out.ok.wlen
 have hch:8*i<d.words.length:=by
  have:=HI.out
  unfold chunksN at this
  omega
 have hn9:d.words.length≤4096:=by have:=zN HP.out.ok.fit;omega
 have hcw:d.words.length≤p.cw:=zvK HP.out.row
 have hcw2:¬ (p.cw=i*8):=by omega
 have hwi:IntKind.i64.wrap ((i:Int)*8)=(i:Int)*8:=IntWalk.i64_in _ (by omega)
 have hin:0≤(i:Int)*8∧(i:Int)*8≤d.words.length:=by omega
 have HCH:=LH hch
 clear hwl hch
 gi_wp2_with (refine ⟨trivial,?_⟩;gi_at_call 82;refine (callsIn_wide.2 HBG.out).mono ?_;rintro e w3 ⟨rfl,rfl⟩)
 gi_wp2_with (refine ⟨trivial,?_⟩;gi_at_call 169;refine (callsIn_wide.2 (zhF A bs.length c 8 (by omega) _)).mono ?_;rintro e w' ⟨rfl,rfl⟩)
 obtain ⟨ad,rfl⟩:∃ ad,A=some ad:=by
  have h9:0<bs.length:=by
   have:=HL.out
   have:=HCH.out
   have:=HP.out.ok.wlen
   unfold sizeN at *
   omega
  obtain ⟨A',c',e,_,_,hA,_⟩:=HSS.out.now
  injection e with e1 e2 e3
  subst e1;subst e3
  cases A with
  | none=>have:=hA rfl;omega
  | some ad=>exact ⟨ad,rfl⟩
 have hbc:bs.length≤c:=by
  obtain ⟨A',c',e,hc,_,hA,_⟩:=HSS.out.now
  injection e with e1 e2 e3
  subst e3
  exact hc
 have hm8:chN bs.length 8≤d.words.length-i*8∧bs.length≤64∧chN bs.length 8=bs.length/8:=by
  have:=HL.out
  have:=HCH.out
  have:=HP.out.ok.wlen
  unfold sizeN chN at *
  omega
 have bT:Boxed (w2.alloc (.cells #[.slice (some ⟨p.wb,i*8,none⟩) (d.words.length-i*8) (p.cw-i*8)] 111)) w2.heap.size 111 (.slice (some ⟨p.wb,i*8,none⟩) (d.words.length-i*8) (p.cw-i*8)):=Boxed.new _ _ _
 have bK:=Boxed.new (w2.alloc (.cells #[.slice (some ⟨p.wb,i*8,none⟩) (d.words.length-i*8) (p.cw-i*8)] 111)) 3 (.int .i64 0)
 have bS:=Boxed.new ((w2.alloc (.cells #[.slice (some ⟨p.wb,i*8,none⟩) (d.words.length-i*8) (p.cw-i*8)] 111)).alloc (.cells #[.int .i64 0] 3)) 23 (.slice (some ad) bs.length c)
 have bN:=Boxed.new (((w2.alloc (.cells #[.slice (some ⟨p.wb,i*8,none⟩) (d.words.length-i*8) (p.cw-i*8)] 111)).alloc (.cells #[.int .i64 0] 3)).alloc (.cells #[.slice (some ad) bs.length c] 23)) 3 (.int .i64 8)
 simp only [World.size_alloc] at bK bS bN
 have hG0:Grow w2 ((((w2.alloc (.cells #[.slice (some ⟨p.wb,i*8,none⟩) (d.words.length-i*8) (p.cw-i*8)] 111)).alloc (.cells #[.int .i64 0] 3)).alloc (.cells #[.slice (some ad) bs.length c] 23)).alloc (.cells #[.int .i64 8] 3)):=((((Keep.refl NoB w2).alloc _).alloc _).alloc _).alloc _
 have x1:=((bT.alloc (.cells #[.int .i64 0] 3)).alloc (.cells #[.slice (some ad) bs.length c] 23)).alloc (.cells #[.int .i64 8] 3)
 have x2:=(bK.alloc (.cells #[.slice (some ad) bs.length c] 23)).alloc (.cells #[.int .i64 8] 3)
 have x3:=bS.alloc (.cells #[.int .i64 8] 3)
 obtain ⟨W0,hW0⟩:∃ W0,((((w2.alloc (.cells #[.slice (some ⟨p.wb,i*8,none⟩) (d.words.length-i*8) (p.cw-i*8)] 111)).alloc (.cells #[.int .i64 0] 3)).alloc (.cells #[.slice (some ad) bs.length c] 23)).alloc (.cells #[.int .i64 8] 3))=W0:=⟨_,rfl⟩
 have hsz:W0.heap.size=w2.heap.size+4:=by rw [← hW0];simp
 rw [hW0] at bN x1 x2 x3 hG0 ⊢
 clear hW0 bT bK bS
 have hr0:=(HP.out.grow hG0).row
 have hlt2:=HP.out.lt
 refine wpIn_rangeFunc_ownG rfl (show 1≤3 by omega) (gf:=220) (lb:=#[.pointer (some ⟨w2.heap.size+1+1,0,none⟩),.pointer (some ⟨w2.heap.size+1+1+1,0,none⟩)]) rfl trivial (enters_of Tryz.func220 (by kernel_rfl) rfl)
  (ziF Fence.wide _ trivial rfl (by omega) (w2.heap.size+1+1) (w2.heap.size+1+1+1) 0 bs.length 8 (by omega) (by omega) (by omega) (some ad) c hbc (by simp) W0 x3 bN) (fun h k=>h.trans k) (KeepB.put (by omega) (by intro k hk;omega)) (Below.refl _ _) (fun _=>rfl)
  (fun pre W=>Boxed W w2.heap.size 111 (.slice (some ⟨p.wb,i*8,none⟩) (d.words.length-i*8) (p.cw-i*8))∧Boxed W (w2.heap.size+1) 3 (.int .i64 pre.length)∧W.ownsRow 0 22 1 (.slice (some ⟨p.wb,0,none⟩) d.words.length p.cw) d.words.length (u64s (setP d.words i bs pre))∧Keep (fun k=>k=p.wb) w2 W∧W0.heap.size≤W.heap.size)
  (fun _ _ _=>False)
  (fun s W W' row hs hg hr=>⟨hs.1.kept hg (fun e=>by have:=(hr _ e.symm).1;omega),hs.2.1.kept hg (fun e=>by have:=(hr _ e.symm).1;omega),hs.2.2.1.kept hg (.inr (fun e=>by have:=(hr p.wb e.symm).1;have:=hlt2.2;omega)),hs.2.2.2.1.grown hg (fun k hk=>.inr (by have:=(hr k hk).1;omega)),Nat.le_trans hs.2.2.2.2 hg.size⟩)
  (fun _ _ _ _ _ hs _ _=>hs)
  ⟨x1,x2,hr0,hG0.mono (fun _ h=>h.elim),Nat.le_refl _⟩
  (fun x=>{ tmps:=#[.pointer (some ⟨b,0,none⟩),.int .i64 i,.slice (some ad) bs.length c,undef,undef,undef,.bool false,.pointer (some ⟨w2.heap.size,0,none⟩),.pointer (some ⟨w2.heap.size+1,0,none⟩),chV (some ad) bs.length 8 x,undef,.pointer (some ⟨b,0,none⟩),.bool false,.bool false,.int .i64 i,.bool false,.bool false,.bool false,.int .i64 i,.pointer (some ⟨b,0,none⟩),.pointer (some ⟨b,0,none⟩),.pointer (some ⟨b,0,none⟩),.agg #[.int .u64 d.session,.slice p.As d.sz.length p.cs,.int .u32 (d.sum:Nat)],.int .i64 (chunksN d.sz:Nat),.bool false,.bool false,.bool false,.slice (some ad) bs.length c,.int .i64 bs.length,.pointer (some ⟨b,0,none⟩),.pointer (some ⟨b,0,none⟩),.pointer (some ⟨b,0,none⟩),.agg #[.int .u64 d.session,.slice p.As d.sz.length p.cs,.int .u32 (d.sum:Nat)],.int .i64 i,.int .i64 (sizeN d.sz i),.bool false,.bool false,.pointer (some ⟨b,0,none⟩),.pointer (some ⟨b,0,none⟩),.pointer (some ⟨b,3,none⟩),.pointer (some ⟨b,5,none⟩),.slice p.Ak d.known.length p.ck,.int .i64 i,.bool false,.pointer (some ⟨b,0,none⟩),.pointer (some ⟨b,0,none⟩),.pointer (some ⟨b,3,none⟩),.pointer (some ⟨b,4,none⟩),.slice (some ⟨p.wb,0,none⟩) d.words.length p.cw,.int .i64 i,.int .i64 ((i:Int)*8),.slice (some ⟨p.wb,i*8,none⟩) (d.words.length-i*8) (p.cw-i*8),.slice (some ad) bs.length c,.func (.func 220) #[] #[.pointer (some ⟨w2.heap.size+1+1,0,none⟩),.pointer (some ⟨w2.heap.size+1+1+1,0,none⟩)],chV (some ad) bs.length 8 x,undef,undef,undef,undef,undef,undef,undef,undef,undef,undef,undef,undef,undef,undef,undef,undef,undef,undef,undef,undef],defers:=[] }) ?assign ?body ?done ?stop
 case assign =>
  intro l' x W K hK
  gi_wp2
  exact hK
 case body =>
  rintro l' pre x W ⟨hT,hK,hrow,hkp,hWs⟩ hlt
  have q1:=hT.cell
  have f1:=hT.frozen
  have q2:=hK.cell
  have f2:=hK.frozen
  have hP:=((HSS.out.grow HG.out).keep hkp (fun k hk e=>HFS.out k hk e)).now.piece 8 x
  have hlw:pre.length<d.words.length-i*8:=by omega
  have hlw2:i*8+pre.length<(setP d.words i bs pre).length:=by rw [zBC];omega
  have hrow2:W.ownsRow 0 22 1 (.slice (some ⟨p.wb,0,none⟩) (setP d.words i bs pre).length p.cw) (setP d.words i bs pre).length (u64s (setP d.words i bs pre)):=by rw [zBC];exact hrow
  have hget:=zjH (ad.add (x*8)) (chL bs.length 8 x) (pieceL bs 8 x) (HB.out.piece 8 x) (by rw [zHA];unfold chL;omega) W (by have h:=hP;rw [zHA] at h ⊢;exact h)
  rw [zHA] at hget
  have HGT:=LH hget
  have HT:=LH hT
  have HK:=LH hK
  have HR:=LH hrow2
  have HKP:=LH hkp
  have HLW:=LH (And.intro hlw hlw2)
  have hpl:IntKind.i64.wrap ((pre.length:Int)+1)=(pre.length:Int)+1:=IntWalk.i64_in _ (by omega)
  have h2:1≤3-1-1:=by omega
  clear hT hK hrow hrow2 hkp hP hget hlw2
  gi_wp2_with (refine ⟨trivial,?_⟩;gi_at_call 170;refine (CallsIn.inRound l' (callsIn_wide.2 HGT.out)).mono ?_;rintro e w5 ⟨rfl,hg5⟩;refine Hid.out ?_)
  have HG5:=LH hg5
  refine LH ?_
  clear q1 f1 q2 f2 hg5
  have hrow5:=zE HR.out HG5.out (fun _ _ h=>h)
  obtain ⟨ad2,e2,q3⟩:=SliceR.int_at (k:=.u64) (SliceR.of_own hrow5) (i*8+pre.length) HLW.out.2
  injection e2 with e2
  subst e2
  rw [zsC] at q3
  have f3:w5.frozen? ⟨p.wb,i*8+pre.length,none⟩=false:=hrow5.frozenAt _
  have hK5:Boxed w5 (w2.heap.size+1) 3 (.int .i64 pre.length):=Grow.heap HG5.out HK.out
  have hT5:Boxed w5 w2.heap.size 111 _:=Grow.heap HG5.out HT.out
  have hlp:=hlt2.2
  have hst:=hrow5.stored (i*8+pre.length) (.int .u64 (leW (pieceL bs 8 x)))
  rw [zDK,← zgE] at hst
  have hK6:=Boxed.away hK5 ⟨p.wb,i*8+pre.length,none⟩ (by show w2.heap.size+1≠p.wb;omega) (.int .u64 (leW (pieceL bs 8 x)))
  have q2:=hK6.cell
  have f2:=hK6.frozen
  have HK6:=LH hK6
  have HT6:=LH (Boxed.away hT5 ⟨p.wb,i*8+pre.length,none⟩ (by show w2.heap.size≠p.wb;omega) (.int .u64 (leW (pieceL bs 8 x))))
  have HST:=LH hst.1
  have hsW:=HT.out.lt
  have hsK:=HK.out.lt
  clear hst hK6 hT5 hK5 hrow5
  gi_wp2
  refine ⟨((((show KeepsOthers W w5 from ⟨HG5.out.size,fun k o hk _=>Grow.heap HG5.out hk⟩).trans (KeepsOthers.setCell _ _ _)).trans (KeepsOthers.setCell _ _ _))).from _,(((KeepB.refl _ _ _).grow (Nat.zero_le _) (fun k hk=>by omega) HG5.out).setAt (p:=⟨p.wb,i*8+pre.length,none⟩) (Nat.zero_le _) (fun k hk=>by show k≠p.wb;omega) _).setAt (p:=⟨w2.heap.size+1,0,none⟩) (Nat.zero_le _) (fun k hk=>by show k≠w2.heap.size+1;omega) _,?_,?_,?_,?_,?_⟩
  ·exact HT6.out.other (by omega) _
  ·rw [List.length_append,List.length_singleton]
   exact HK6.out.set _
  ·have h9:=zE HST.out ((Keep.refl (fun j=>j=w2.heap.size+1) _).setCell (p:=⟨w2.heap.size+1,0,none⟩) (.inl rfl) (.int .i64 ((pre.length:Int)+1))) (fun k hk e=>by cases hk;have e2:p.wb=w2.heap.size+1:=e;omega)
   rw [zBC] at h9
   exact h9
  ·exact ((HKP.out.grow HG5.out).setCell (p:=⟨p.wb,i*8+pre.length,none⟩) (.inl rfl) _).setCell (p:=⟨w2.heap.size+1,0,none⟩) (.inr (by show w2.heap.size≤w2.heap.size+1;omega)) _
  ·have:=HG5.out.size
   simp only [World.size_setCell]
   omega
 case done =>
  rintro D ys W hD rfl ⟨hT,hK,hrow,hkp,hWs⟩ hDf
  rw [zhE,hm8.2.2] at hrow
  have hcell:=(hkp.block b hlt2.1 HP.out.dis.1).trans HP.out.cell
  obtain ⟨c0,c1,c2,c3,c4,c5,cf⟩:=zSA hcell
  have hro:=HP.out.ro.keep hkp (fun k hk e=>HP.out.dis.2.2 (e ▸ hk))
  have hbs:=zbH p.Ak p.ck d.known HP.out.ok.known (by rw [HP.out.ok.klen];omega) i (by omega) W hro.now.2
  have HBS:=LH hbs
  have HR:=LH hrow
  have HKP:=LH hkp
  have HCL:=LH hcell
  have HRO:=LH hro
  have HDF:=LH hDf
  clear hT hK hrow hkp hcell hro hbs hDf
  gi_wp2_with (refine ⟨trivial,?_⟩;gi_at_call 121;refine (callsIn_wide.2 HBS.out).mono ?_;rintro e w6 ⟨A6,c6,rfl,hg6,ho6⟩;refine Hid.out ?_)
  have HG6:=LH hg6
  have HO6:=LH ho6
  refine LH ?_
  have hcell6:=Grow.heap HG6.out HCL.out
  clear c0 c1 c2 c3 c4 c5 cf hg6 ho6
  obtain ⟨c0,c1,c2,c3,c4,c5,cf⟩:=zSA hcell6
  have HCL6:=LH hcell6
  have hbD:b≠D:=by have:=hlt2.1;omega
  have hD2:(w6.setCell ⟨b,5,none⟩ (.slice A6 (setB d.known i).length c6)).heap[D]? = some (.deferred (some [])):=(Below.heap_setCell w6 ⟨b,5,none⟩ _ D (fun e=>hbD e.symm)).trans (Grow.heap HG6.out HDF.out)
  have HD2:=LH hD2
  clear hcell6 hD2
  gi_wp2
  have hkb:Keep (fun k=>k=b) w6 (w6.setCell ⟨b,5,none⟩ (.slice A6 (setB d.known i).length c6)):=(Keep.refl (fun k=>k=b) w6).setCell (p:=⟨b,5,none⟩) (.inl rfl) _
  have hcf:(w6.setCell ⟨b,5,none⟩ (.slice A6 (setB d.known i).length c6)).heap[b]? = some (.cells #[.int .u64 d.session,.slice p.As d.sz.length p.cs,.int .u32 (d.sum:Nat),.slice p.As d.sz.length p.cs,.slice (some ⟨p.wb,0,none⟩) d.words.length p.cw,.slice A6 (setB d.known i).length c6] 247 (0,0)):=by
   have h0:=HCL6.out
   simp only [World.setCell,Array.getElem?_modify]
   simp [h0]
  have hkD:Keep (fun k=>k=D) (w6.setCell ⟨b,5,none⟩ (.slice A6 (setB d.known i).length c6)) ((w6.setCell ⟨b,5,none⟩ (.slice A6 (setB d.known i).length c6)).putObj D (.deferred none)):=(Keep.refl _ _).grown (grownBy_putObj' _ D _) (fun k hk=>.inl (by cases hk;rfl))
  have hd:=HP.out.dis
  have hW6:=HG6.out.size
  have hKW:Keep (fun k=>k=b∨k=p.wb) w W:=(HG.out.mono (T:=fun k=>k=b∨k=p.wb) (fun _ h=>h.elim)).trans HKP.out (fun k hk=>.inl (.inr hk))
  have hPf:PAt b { p with Ak:=A6,ck:=c6 } { d with words:=setN d.words i bs (bs.length/8),known:=setB d.known i } (fun k=>G k∨(Value.slice A6 (setB d.known i).length c6).ownBlock=some k) (w6.setCell ⟨b,5,none⟩ (.slice A6 (setB d.known i).length c6)):=by
   refine ⟨?_,?_,?_,⟨hd.1,?_,?_⟩,?_⟩
   ·rw [zNA];exact hcf
   ·rw [zNA]
    exact zE (zE HR.out HG6.out (fun _ _ h=>h)) hkb (fun k hk e=>by cases hk;exact hd.1 e.symm)
   ·exact (((HRO.out.grow HG6.out).imp (fun u h=>h.1)).keep hkb (fun k hk e=>hd.2.1 (e ▸ hk))).and ((Foot.of_own HO6.out).keep hkb (fun k hk e=>by have h1:=(HO6.out.lt k hk).1;have h2:=hlt2.1;have e2:k=b:=e;omega))
   ·rintro (h | h)
    ·exact hd.2.1 h
    ·have h1:=(HO6.out.lt b h).1;have h2:=hlt2.1;omega
   ·rintro (h | h)
    ·exact hd.2.2 h
    ·have h1:=(HO6.out.lt p.wb h).1;have h2:=hlt2.2;have:=hlt2.1;omega
   ·have hok:=HP.out.ok
    exact ⟨hok.s0,hok.s1,hok.sum,hok.fit,by show ((setN d.words i bs (bs.length/8)).length:Int)=_;rw [zNA];exact hok.wlen,zGH hok.win HB.out i _,hok.known.set i,by show (setB d.known i).length=_;rw [zyB];exact hok.klen⟩
  refine ⟨by simp,.inl ⟨_,_,rfl,run_takeDeferred HD2.out,?_⟩⟩
  refine ⟨_,results_tmp rfl _ _ _,rfl,{ p with Ak:=A6,ck:=c6 },_,rfl,hPf.keep hkD (fun e=>hbD e) (fun e=>by have e2:p.wb=D:=e;have:=hlt2.2;omega) (fun k hk e=>?_),?_,?_⟩
  ·have e2:k=D:=e
   rcases hk with h | h
   ·have:=HP.out.ro.lt h;omega
   ·have h1:=(HO6.out.lt k h).1;have h3:=(gE HDF.out).1;omega
  ·exact (((hKW.grow HG6.out).trans hkb (fun k hk=>.inl (.inl hk))).trans hkD (fun k hk=>.inr (by have e2:k=D:=hk;have:=HG.out.size;omega)))
  ·rintro k (h | h)
   ·exact .inl h
   ·exact .inr (by have h1:=(HO6.out.lt k h).1;have:=hKW.size;omega)
 case stop =>
  rintro D c' pre W _ _ h _
  exact h.elim
end Go.Proofs.YtfkcpaahdlkcdaaGreat
namespace Go.Proofs.YtfkcpaahdlkcdaaGreat
open Go.RowKit
theorem okU_wf {l:List Int} (h:∀ x∈l,(Lit.int .u8 x).wf=true):okU l:=fun x hx=>by
 simpa [Lit.wf,show IntKind.u8.min=0 from rfl,show IntKind.u8.max=255 from rfl] using h x hx
theorem zrI (x:Int) (s:Nat):u8s (putB x (s+1))=u8s (putB x s)++[.int .u8 (x/2 ^ (8*s)%256)]:=by
 simp [putB,u8s,List.range_succ]
theorem ziE (x:Int) (k:Nat):x/2 ^ (8*(k+1))=x/2 ^ (8*k)/256:=by
 rw [show 8*(k+1)=8*k+8 from by omega,Int.pow_add,← Int.ediv_ediv_of_nonneg (by exact_mod_cast Nat.zero_le _)]
 rfl
theorem zQC (x:Int) (s:Nat) (w:World) (hx0:0≤x) (hx1:x≤18446744073709551615) (hs:s≤8) :
    Calls Tryz.prog 71 #[.int .u64 x,.int .i64 s] w fun e w'=>∃ A c,e=.returned (.slice A (putB x s).length c)∧Grow w w'∧w'.ownsRow w.heap.size 5 1 (.slice A (putB x s).length c) (putB x s).length (u8s (putB x s)):=by
 rw [zX]
 have HX:=LH (And.intro hx0 hx1)
 clear hx0 hx1
 go_enter Tryz.func71,Tryz.ntmps71
 go_wp2_with fail
 go_loopw [0,5,6] (fun v0 v5 v6 wr=>∃ (k:Nat) (A4:Option Addr) (c4:Nat) (y:Int),k≤s∧v6=.int .i64 k∧v5=.slice A4 k c4∧v0=.int .u64 y∧y=x/2 ^ (8*k)∧0≤y∧y≤18446744073709551615∧Hid (Grow w wr∧wr.ownsRow w.heap.size 5 1 (.slice A4 k c4) k (u8s (putB x k)))) (fun _ _ v _=>s-(intOf v).toNat)
 case atStart=>exact ⟨0,none,0,x,by omega,rfl,rfl,rfl,by simp,HX.out.1,HX.out.2,Keep.refl _ _,World.ownsRow_nil _ w.heap.size 5 1⟩
 case round =>
  obtain ⟨k,A4,c4,y,hk,rfl,rfl,rfl,hy,y0,y1,HS⟩:=hrel
  have HY:=LH hy
  clear hy
  by_cases hlt:k<s
  ·have hw:IntKind.i64.wrap ((k:Int)+1)=(k:Int)+1:=IntWalk.i64_in _ (by omega)
   have hlt':(k:Int)<(s:Int):=by omega
   have hlt8:(k:Int)<8:=by omega
   have hy2:0≤y%256:=by omega
   have hy3:y%256≤255:=by omega
   have E1:=LH (zrI x k)
   have hgb:=HS.out.1.size
   have HGB:=LH hgb
   clear hgb
   go_wp2_with (at_builtin;refine zL _ rfl _ _ 23 23 rfl w.heap.size 5 (.int .u8 0) 1 1 zW zy rfl (.slice A4 k c4) k (u8s (putB x k)) rfl (.slice (some ⟨wr.heap.size,0,none⟩) 1 1) 1 [.int .u8 (y%256)] rfl ?_ (by exact zE HS.out.2 ((Keep.refl NoB wr).alloc _) (fun _ _ h=>h)) (by exact Src.ofSlice _ zW ⟨wr.heap.size,0,none⟩ 1 1 _ rfl (World.news_of_block (cs:=#[.int .u8 (y%256)]) (t:=5) (fr:=(0,0)) (heap_alloc_new wr _)) (by simp [Value.oneCell'])) (by simp only [maxLen];omega) (by omega) (by have:=HGB.out;simp;omega);intro v3 w3 hap;refine Hid.out ?_)
   refine LH ?_
   have Hg3:Hid (Grow w w3):=LH (((((HS.out.1.mono (T:=fun k=>w.heap.size≤k) (fun _ h=>h.elim)).alloc _).grown hap.grew (fun k hk=>.inl (HS.out.2.lt k hk).1))).new (fun _ h=>h))
   have Ho3:=LH hap.own
   obtain ⟨A6,c6,rfl,_⟩:=zJ hap.own
   clear hap
   rw [HY.out,← E1.out] at Ho3
   go_wp2
   go_roundw
   case rel =>
    refine ⟨k+1,A6,c6,y/256,by omega,by go_num,rfl,rfl,?_,by omega,by omega,Hg3.out,Ho3.out⟩
    rw [ziE,HY.out]
   case measure=>simp [intOf];omega
  ·obtain rfl:k=s:=by omega
   have hlt':¬ ((k:Int)<(k:Int)):=by omega
   go_wp2
   go_ret
   exact ⟨A4,c4,rfl,HS.out.1,HS.out.2⟩
theorem zEK (a b:Nat):2197175160*((a ^^^ b)%2)=(2197175160*(a%2)) ^^^ (2197175160*(b%2)):=by
 have h:(a ^^^ b)%2=(a%2) ^^^ (b%2):=Nat.xor_mod_two_pow (n:=1)
 rcases Nat.mod_two_eq_zero_or_one a with ha | ha <;> rcases Nat.mod_two_eq_zero_or_one b with hb | hb
 ·rw [h,ha,hb];rfl
 ·rw [h,ha,hb];rfl
 ·rw [h,ha,hb];rfl
 ·rw [h,ha,hb,Nat.xor_self];decide
theorem zsI (a b:Nat):stepN (a ^^^ b)=stepN a ^^^ stepN b:=by
 unfold stepN
 rw [zEK,Nat.xor_div_two]
 ac_rfl
theorem zxD (a b:Nat):∀ k,stepsN k (a ^^^ b)=stepsN k a ^^^ stepsN k b
 | 0=>rfl
 | k+1=>by
  unfold stepsN
  rw [zxD a b k,zsI]
theorem ztI (m:Nat):stepN (2*m)=m:=by
 unfold stepN
 rw [show 2*m/2=m from by omega,show 2*m%2=0 from by omega]
 simp
theorem zuF (m:Nat):stepsN 8 (256*m)=m:=by
 rw [show 256*m=2*(2*(2*(2*(2*(2*(2*(2*m))))))) from by omega]
 simp only [stepsN,ztI]
theorem zNL (n:Nat):(256*(n/256)) ^^^ (n%256)=n:=by
 apply Nat.eq_of_testBit_eq
 intro i
 rw [Nat.testBit_xor,show (256:Nat)=2 ^ 8 from rfl,Nat.testBit_two_pow_mul,Nat.testBit_mod_two_pow,Nat.testBit_div_two_pow]
 by_cases h:i<8
 ·have h2:¬ (8≤i):=by omega
  simp [h,h2]
 ·have h2:8≤i:=by omega
  simp [h,h2]
theorem zwK (n c:Nat):stepsN 8 (n ^^^ c)=(n/256) ^^^ stepsN 8 ((n%256) ^^^ c):=by
 conv=>lhs;rw [← zNL n]
 rw [Nat.xor_assoc,zxD,zuF]
def rcrcN (n:Nat) (bs:List Int):Nat:=bs.foldl (fun n c=>stepsN 8 (n ^^^ c.toNat)) n
theorem zkH (n:Nat) (bs:List Int) (c:Int):rcrcN n (bs++[c])=stepsN 8 (rcrcN n bs ^^^ c.toNat):=by simp [rcrcN]
theorem zvF (n:Nat) (bs:List Int):rcrcN n bs=crcN n bs:=by
 induction bs generalizing n with
 | nil=>rfl
 | cons c bs ih =>
  show rcrcN (stepsN 8 (n ^^^ c.toNat)) bs=crcN ((n/256) ^^^ stepsN 8 ((n%256) ^^^ c.toNat)) bs
  rw [zwK]
  exact ih _
theorem zuI (n:Nat) (w:World) (h:n<4294967296):Calls Tryz.prog 209 #[.int .u32 n] w fun e w'=>e=.returned (.int .u32 (stepN n:Nat))∧w=w':=by
 have h0:(0:Int)≤n:=by omega
 have h1:(n:Int)≤4294967295:=by omega
 rcases Nat.mod_two_eq_zero_or_one n with hm | hm
 ·have hb:((n:Int)%2==1)=false:=beq_eq_false_iff_ne.2 (by omega)
  have E:Hid ((n:Int)/2=((stepN n:Nat):Int)):=LH (by unfold stepN;rw [hm];simp)
  go_enter Tryz.func209,Tryz.ntmps209
  go_wp2
  go_ret
  rw [← E.out]
  exact ⟨rfl,rfl⟩
 ·have hb:((n:Int)%2==1)=true:=beq_iff_eq.2 (by omega)
  have E:Hid (bits .xor .u32 ((n:Int)/2) 2197175160=((stepN n:Nat):Int)):=LH (by
   have:=u32_xor_nat (n/2) 2197175160 (by omega) (by decide)
   rw [show ((n/2:Nat):Int)=(n:Int)/2 from by omega] at this
   unfold stepN;rw [hm]
   exact this)
  go_enter Tryz.func209,Tryz.ntmps209
  go_wp2
  go_ret
  rw [← E.out]
  exact ⟨rfl,rfl⟩
theorem zwF (n:Nat) (hn:n<4294967296) (bs:List Int) (hbig:bs.length≤1000000000) (hb:∀ c∈bs,0≤c∧c≤255) (A:Option Addr) (c:Nat) (w:World) (h:SliceR 1 (.slice A bs.length c) bs.length (u8s bs) w) :
    Calls Tryz.prog 145 #[.int .u32 n,.slice A bs.length c] w fun e w'=>e=.returned (.int .u32 (moreN n bs:Nat))∧w=w':=by
 have HB:=LH hb
 have H:=LH h
 clear hb h
 have h0:(0:Int)≤n:=by omega
 have h1:(n:Int)≤4294967295:=by omega
 have hnx:bits .xor .u32 (n:Int) 4294967295=((4294967295 ^^^ n:Nat):Int):=by
  rw [Nat.xor_comm];exact u32_xor_nat n 4294967295 hn (by decide)
 have hlm:=zJD hn
 have E0:Hid (moreN n bs=rcrcN (4294967295 ^^^ n) bs ^^^ 4294967295):=LH (by unfold moreN;rw [zvF,Nat.xor_comm])
 generalize 4294967295 ^^^ n=n0 at *
 go_enter Tryz.func145,Tryz.ntmps145
 go_wp2
 clear hnx
 go_loopw [0,5,6] (fun vn v v6 wr=>wr=w∧∃ k:Nat,k≤bs.length∧v=.int .i64 k∧vn=.int .u32 (rcrcN n0 (bs.take k):Nat)) (fun _ v _ _=>bs.length-(intOf v).toNat)
 case atStart=>exact ⟨rfl,0,by omega,rfl,by simp [rcrcN]⟩
 case round =>
  obtain ⟨rfl,k,hk,rfl,rfl⟩:=hrel
  have hlt2:rcrcN n0 (bs.take k)<4294967296:=by rw [zvF];exact zME (fun x hx=>HB.out x (List.mem_of_mem_take hx)) hlm
  by_cases hlt:k<bs.length
  ·have hlt':(k:Int)<bs.length:=by omega
   have hbl:bs.length≤1000000000:=hbig
   have hw:IntKind.i64.wrap ((k:Int)+1)=(k:Int)+1:=IntWalk.i64_in _ (by omega)
   obtain ⟨ad,rfl,q1⟩:=SliceR.int_at (k:=.u8) H.out k hlt
   have hc:=HB.out _ (List.getElem_mem hlt)
   have hc0:=hc.1
   have hc1:=hc.2
   have Hsn:Hid (rcrcN n0 (bs.take (k+1))=stepsN 8 (rcrcN n0 (bs.take k) ^^^ bs[k].toNat)):=LH (by rw [List.take_succ_eq_append_getElem hlt,zkH])
   generalize rcrcN n0 (bs.take k)=m at *
   have hx32:bits .xor .u32 (m:Int) bs[k]=((m ^^^ bs[k].toNat:Nat):Int):=by
    have:=u32_xor_nat m bs[k].toNat hlt2 (by omega)
    rwa [show ((bs[k].toNat:Nat):Int)=bs[k] from by omega] at this
   have hlt3:m ^^^ bs[k].toNat<4294967296:=Nat.xor_lt_two_pow (n:=32) hlt2 (by omega)
   generalize m ^^^ bs[k].toNat=ix at *
   go_wp2_with fail
   go_loopw [0,6] (fun vn v wr2=>wr2=wr∧∃ i:Nat,i≤8∧v=.int .i64 i∧vn=.int .u32 (stepsN i ix:Nat)) (fun _ v _=>8-(intOf v).toNat)
   case atStart=>exact ⟨rfl,0,by omega,rfl,rfl⟩
   case round =>
    obtain ⟨rfl,i,hi,rfl,rfl⟩:=hrel
    have hs2:=zaB hlt3 i
    by_cases hilt:i<8
    ·have hilt':(i:Int)<8:=by omega
     have hwi:IntKind.i64.wrap ((i:Int)+1)=(i:Int)+1:=IntWalk.i64_in _ (by omega)
     go_wp2_with fail
     refine (zuI _ _ hs2).mono ?_
     rintro e w' ⟨rfl,rfl⟩
     go_wp2
     go_roundw
     case rel=>exact ⟨trivial,i+1,by omega,by go_num,rfl⟩
     case measure=>simp [intOf];omega
    ·obtain rfl:i=8:=by omega
     go_wp2
     go_roundw
     case rel=>exact ⟨trivial,k+1,by omega,by go_num,by rw [Hsn.out]⟩
     case measure=>simp [intOf];omega
  ·obtain rfl:k=bs.length:=by omega
   have hlt':¬ ((bs.length:Int)<bs.length):=by omega
   rw [List.take_length] at hlt2 ⊢
   have hnx:bits .xor .u32 ((rcrcN n0 bs:Nat):Int) 4294967295=((rcrcN n0 bs ^^^ 4294967295:Nat):Int):=u32_xor_nat _ 4294967295 hlt2 (by decide)
   go_wp2
   go_ret
   exact ⟨by rw [E0.out];rfl,rfl⟩
theorem zlH (bs:List Int) (hbig:bs.length≤1000000000) (hb:∀ c∈bs,0≤c∧c≤255) (A:Option Addr) (c:Nat) (w:World) (h:SliceR 1 (.slice A bs.length c) bs.length (u8s bs) w) :
    Calls Tryz.prog 73 #[.slice A bs.length c] w fun e w'=>e=.returned (.int .u32 (moreN 0 bs:Nat))∧w=w':=by
 have HM:=LH (zwF 0 (by decide) bs hbig hb A c w h)
 clear h hb
 go_enter Tryz.func73,Tryz.ntmps73
 go_wp2_with fail
 refine HM.out.mono ?_
 rintro e w1 ⟨rfl,rfl⟩
 go_wp2
 go_ret
 exact ⟨rfl,rfl⟩
end Go.Proofs.YtfkcpaahdlkcdaaGreat

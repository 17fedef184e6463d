import Derived.Test.YtfkcpaahdlkcdaaGreatRRecvSum14
import Derived.Test.YtfkcpaahdlkcdaaGreatRRecvSum17
set_option linter.unusedSimpArgs false
set_option linter.unusedVariables false
set_option maxRecDepth 100000
set_option maxHeartbeats 16000000
namespace Go.Proofs.YtfkcpaahdlkcdaaGreat
open Go.RowKit
structure RcvAt (g:Nat) (rc:RC) (b:Nat) (p:PP) (d:Par) (G:Nat→Prop) (k:KS) (Gk:Nat→Prop) (w:World):Prop where
 cell:RCell g rc w
 part:rc.part=some ⟨b,0,none⟩
 pat:PAt b p d G w
 kat:KAt rc.st k Gk w
 gb:g≠b∧g≠p.wb∧¬ G g∧¬ KF rc.st k g∧¬ Gk g
 kf:∀ j,KF rc.st k j→j≠b∧j≠p.wb∧¬ G j
 kg:¬ Gk b∧¬ Gk p.wb
def RF (g:Nat) (st b:Nat) (p:PP) (k:KS):Nat→Prop:=fun j=>j=g∨j=b∨j=p.wb∨KF st k j
theorem RcvAt.keep {g:Nat} {rc:RC} {b:Nat} {p:PP} {d:Par} {G:Nat→Prop} {k:KS} {Gk S:Nat→Prop} {w w':World} (h:RcvAt g rc b p d G k Gk w) (hk:Keep S w w') (h1:∀ j,RF g rc.st b p k j→¬ S j) (h2:∀ j,G j→¬ S j) (h3:∀ j,Gk j→¬ S j):RcvAt g rc b p d G k Gk w' :=
 ⟨h.cell.keep hk (h1 g (.inl rfl)),h.part,h.pat.keep hk (h1 b (.inr (.inl rfl))) (h1 p.wb (.inr (.inr (.inl rfl)))) h2,h.kat.keep hk (fun j hj=>h1 j (.inr (.inr (.inr hj)))) h3,h.gb,h.kf,h.kg⟩
theorem RcvAt.grow {g:Nat} {rc:RC} {b:Nat} {p:PP} {d:Par} {G:Nat→Prop} {k:KS} {Gk:Nat→Prop} {w w':World} (h:RcvAt g rc b p d G k Gk w) (hk:Grow w w'):RcvAt g rc b p d G k Gk w':=h.keep hk (fun _ _ h=>h) (fun _ _ h=>h) (fun _ _ h=>h)
theorem RcvAt.small {g:Nat} {rc:RC} {b:Nat} {p:PP} {d:Par} {G:Nat→Prop} {k:KS} {Gk:Nat→Prop} {w:World} (h:RcvAt g rc b p d G k Gk w):(∀ j,RF g rc.st b p k j→j<w.heap.size)∧(∀ j,G j→j<w.heap.size)∧∀ j,Gk j→j<w.heap.size :=
 ⟨fun j hj=>by
  rcases hj with e | e | e | e
  ·rw [e];exact h.cell.lt
  ·rw [e];exact h.pat.lt.1
  ·rw [e];exact h.pat.lt.2
  ·exact h.kat.small j e,h.pat.ro.1,h.kat.ro.1⟩
theorem RcvAt.put {g:Nat} {rc rc':RC} {b:Nat} {p:PP} {d:Par} {G:Nat→Prop} {k:KS} {Gk:Nat→Prop} {w:World} (h:RcvAt g rc b p d G k Gk w) (i:Nat) (v:Value) (hd:rc.cs.setIfInBounds i v=rc'.cs) (hpt:rc'.part=rc.part) (hst:rc'.st=rc.st):RcvAt g rc' b p d G k Gk (w.setCell ⟨g,i,none⟩ v)∧Keep (fun j=>j=g) w (w.setCell ⟨g,i,none⟩ v):=by
 have hp:=h.cell.put i v hd
 have hS:=h.pat.keep hp.2 (fun e=>h.gb.1 e.symm) (fun e=>h.gb.2.1 e.symm) (fun j hj e=>h.gb.2.2.1 (by rw [← e];exact hj))
 have hK:=h.kat.keep hp.2 (fun j hj e=>h.gb.2.2.2.1 (by rw [← e];exact hj)) (fun j hj e=>h.gb.2.2.2.2 (by rw [← e];exact hj))
 exact ⟨⟨hp.1,hpt.trans h.part,hS,by rw [hst];exact hK,by rw [hst];exact h.gb,by rw [hst];exact h.kf,h.kg⟩,hp.2⟩
theorem RcvAt.morePart {g:Nat} {rc:RC} {b:Nat} {p p':PP} {d d':Par} {G G':Nat→Prop} {k:KS} {Gk:Nat→Prop} {w w':World} (h:RcvAt g rc b p d G k Gk w) (hwb:p'.wb=p.wb) (hP:PAt b p' d' G' w') (hk:Keep (fun j=>j=b∨j=p.wb) w w') (hG:∀ j,G' j→G j∨w.heap.size≤j):RcvAt g rc b p' d' G' k Gk w':=by
 have hs:=h.small
 have hgl:=h.cell.lt
 refine ⟨h.cell.keep hk (fun e=>e.elim h.gb.1 h.gb.2.1),h.part,hP,h.kat.keep hk (fun j hj e=>e.elim (h.kf j hj).1 (h.kf j hj).2.1) (fun j hj e=>e.elim (fun e=>h.kg.1 (by rw [← e];exact hj)) (fun e=>h.kg.2 (by rw [← e];exact hj))),⟨h.gb.1,by rw [hwb];exact h.gb.2.1,fun e=>?_,h.gb.2.2.2⟩,fun j hj=>⟨(h.kf j hj).1,by rw [hwb];exact (h.kf j hj).2.1,fun e=>?_⟩,by rw [hwb];exact h.kg⟩
 ·rcases hG g e with e | e
  ·exact h.gb.2.2.1 e
  ·omega
 ·rcases hG j e with e | e
  ·exact (h.kf j hj).2.2 e
  ·have:=hs.1 j (.inr (.inr (.inr hj)));omega
theorem RcvAt.moreStore {g:Nat} {rc:RC} {b:Nat} {p:PP} {d:Par} {G:Nat→Prop} {k k':KS} {Gk Gk':Nat→Prop} {w w':World} (h:RcvAt g rc b p d G k Gk w) (hK:KAt rc.st k' Gk' w') (hk:Keep (KF rc.st k) w w') (hF:∀ j,KF rc.st k' j→KF rc.st k j∨w.heap.size≤j) (hG:∀ j,Gk' j→Gk j∨w.heap.size≤j):RcvAt g rc b p d G k' Gk' w':=by
 have hs:=h.small
 have hgl:=h.cell.lt
 have hpl:=h.pat.lt
 refine ⟨h.cell.keep hk h.gb.2.2.2.1,h.part,h.pat.keep hk (fun e=>(h.kf b e).1 rfl) (fun e=>(h.kf p.wb e).2.1 rfl) (fun j hj e=>(h.kf j e).2.2 hj),hK,⟨h.gb.1,h.gb.2.1,h.gb.2.2.1,fun e=>?_,fun e=>?_⟩,fun j hj=>?_,fun e=>?_,fun e=>?_⟩
 ·rcases hF g e with e | e
  ·exact h.gb.2.2.2.1 e
  ·omega
 ·rcases hG g e with e | e
  ·exact h.gb.2.2.2.2 e
  ·omega
 ·rcases hF j hj with e | e
  ·exact h.kf j e
  ·exact ⟨by omega,by omega,fun e2=>by have:=hs.2.1 j e2;omega⟩
 ·rcases hG b e with e | e
  ·exact h.kg.1 e
  ·omega
 ·rcases hG p.wb e with e | e
  ·exact h.kg.2 e
  ·omega
def Par.more (d:Par) (i:Nat) (bs:List Int):Par:={ d with words:=setN d.words i bs (bs.length/8),known:=setB d.known i }
theorem zsH {g:Nat} {rc:RC} {w:World} (h:RCell g rc w) (hph:rc.phase=1) (hpt:rc.part=none) (session i of:Int) (sum:Nat) (A2:Option Addr) (n2 c2':Nat) :
    Calls Tryz.prog 110 #[.pointer (some ⟨g,0,none⟩),.agg #[.int .i64 2,.int .u64 session,.int .i64 i,.int .i64 of,.int .u32 (sum:Nat),.slice none 0 0,.slice A2 n2 c2']] w fun e w'=>e=.returned (.slice none 0 0)∧RCell g { rc with closed:=false } w'∧Keep (fun k=>k=g) w w':=by
 have hg0:=(Keep.refl NoB w).alloc (.cells #[.int .i64 2,.int .u64 session,.int .i64 i,.int .i64 of,.int .u32 (sum:Nat),.slice none 0 0,.slice A2 n2 c2'] 46)
 have HZ:=LH (heap_alloc_new w (.cells #[.int .i64 2,.int .u64 session,.int .i64 i,.int .i64 of,.int .u32 (sum:Nat),.slice none 0 0,.slice A2 n2 c2'] 46))
 have HLT:Hid (g<w.heap.size):=LH h.lt
 have H:=LH (h.grow hg0)
 have HG:=LH hg0
 clear h hg0
 go_enter Tryz.func110,Tryz.ntmps110
 obtain ⟨c0,c1,c2,c3,c4,c5,c6,c7,c8,c9,c10,c11,c12,c13,c14,c15,c16,c17,c18,c19,c20,cf⟩:=zH H.out
 go_wp2
 have h2:=H.out.put (d':={ rc with closed:=false }) 20 (.bool false) rfl
 have HGN:Hid (¬ w.heap.size=g):=LH (fun e=>by have:=HLT.out;omega)
 replace HZ:=LH ((h2.2.block _ (gE HZ.out).1 HGN.out).trans HZ.out)
 have HK:=LH ((HG.out.mono (T:=fun k=>k=g) (fun _ h=>h.elim)).trans h2.2 (fun _ h=>.inl h))
 replace H:=LH h2.1
 clear h2 HG c0 c1 c2 c3 c4 c5 c6 c7 c8 c9 c10 c11 c12 c13 c14 c15 c16 c17 c18 c19 c20 cf
 generalize (w.alloc (.cells #[.int .i64 2,.int .u64 session,.int .i64 i,.int .i64 of,.int .u32 (sum:Nat),.slice none 0 0,.slice A2 n2 c2'] 46)).setCell ⟨g,20,none⟩ (.bool false)=w2 at H HZ HK ⊢
 obtain ⟨c0,c1,c2,c3,c4,c5,c6,c7,c8,c9,c10,c11,c12,c13,c14,c15,c16,c17,c18,c19,c20,cf⟩:=zH H.out
 rw [show ({ rc with closed:=false }:RC).part=none from hpt] at c0
 rw [show ({ rc with closed:=false }:RC).phase=1 from hph] at c6
 go_wp2
 refine zD [0,1,2,3,4,5,6,7,8,9,10,11,12,13,14,15,16,17,18,19,20,21,22] [19,20] [3,9,14,18] [] rfl (by kernel_rfl) ?_
 iterate 3
  refine ord_p ?_
 refine ord_r (y:=by intro w' hg;have q:=hg.cell c6 (fun h=>h);go_simp;with_reducible rfl) (z:=?_)
 iterate 2
  refine ord_p ?_
 iterate 3
  refine zS ?_
 refine zY (y:=by intro w' hg;have q:=hg.cell c0 (fun h=>h);go_simp;with_reducible rfl) (z:=?_)
 refine zS ?_
 iterate 2
  refine ord_p ?_
 iterate 6
  refine zGB rfl rfl rfl rfl (fun _ _ _ _ h=>h) ?_ ?_ ?_
  rotate_left 1
  ·simp only [Act.put,pB,pC,pD];rfl
 iterate 2
  refine zKH rfl rfl rfl _ (by simp only [Act.put,pB,pC,pD];rfl) ?_
 refine zGB rfl rfl rfl rfl (fun _ _ _ _ h=>h) ?_ ?_ ?_
 rotate_left 1
 ·simp only [Act.put,pB,pC,pD];rfl
 refine ord_p ?_
 refine zF ?_
 clear c0 c1 c2 c3 c4 c5 c6 c7 c8 c9 c10 c11 c12 c13 c14 c15 c16 c17 c18 c19 c20 cf
 go_wp2
 go_ret
 exact ⟨rfl,(show RCell g { rc with closed:=false } w2.drew from H.out),HK.out.drew⟩
theorem ztH {g:Nat} {rc:RC} {w:World} (h:RCell g rc w) (hph:rc.phase=2) (session i of:Int) (sum:Nat) (A2:Option Addr) (n2 c2':Nat) :
    Calls Tryz.prog 110 #[.pointer (some ⟨g,0,none⟩),.agg #[.int .i64 2,.int .u64 session,.int .i64 i,.int .i64 of,.int .u32 (sum:Nat),.slice none 0 0,.slice A2 n2 c2']] w fun e w'=>e=.returned (.slice none 0 0)∧RCell g { rc with closed:=false } w'∧Keep (fun k=>k=g) w w':=by
 have hg0:=(Keep.refl NoB w).alloc (.cells #[.int .i64 2,.int .u64 session,.int .i64 i,.int .i64 of,.int .u32 (sum:Nat),.slice none 0 0,.slice A2 n2 c2'] 46)
 have HZ:=LH (heap_alloc_new w (.cells #[.int .i64 2,.int .u64 session,.int .i64 i,.int .i64 of,.int .u32 (sum:Nat),.slice none 0 0,.slice A2 n2 c2'] 46))
 have HLT:Hid (g<w.heap.size):=LH h.lt
 have H:=LH (h.grow hg0)
 have HG:=LH hg0
 clear h hg0
 go_enter Tryz.func110,Tryz.ntmps110
 obtain ⟨c0,c1,c2,c3,c4,c5,c6,c7,c8,c9,c10,c11,c12,c13,c14,c15,c16,c17,c18,c19,c20,cf⟩:=zH H.out
 go_wp2
 have h2:=H.out.put (d':={ rc with closed:=false }) 20 (.bool false) rfl
 have HGN:Hid (¬ w.heap.size=g):=LH (fun e=>by have:=HLT.out;omega)
 replace HZ:=LH ((h2.2.block _ (gE HZ.out).1 HGN.out).trans HZ.out)
 have HK:=LH ((HG.out.mono (T:=fun k=>k=g) (fun _ h=>h.elim)).trans h2.2 (fun _ h=>.inl h))
 replace H:=LH h2.1
 clear h2 HG c0 c1 c2 c3 c4 c5 c6 c7 c8 c9 c10 c11 c12 c13 c14 c15 c16 c17 c18 c19 c20 cf
 generalize (w.alloc (.cells #[.int .i64 2,.int .u64 session,.int .i64 i,.int .i64 of,.int .u32 (sum:Nat),.slice none 0 0,.slice A2 n2 c2'] 46)).setCell ⟨g,20,none⟩ (.bool false)=w2 at H HZ HK ⊢
 obtain ⟨c0,c1,c2,c3,c4,c5,c6,c7,c8,c9,c10,c11,c12,c13,c14,c15,c16,c17,c18,c19,c20,cf⟩:=zH H.out
 rw [show ({ rc with closed:=false }:RC).phase=2 from hph] at c6
 go_wp2
 refine zD [0,1,2,3,4,5,6,7,8,9,10,11,12,13,14,15,16,17,18,19,20,21,22] [19,20] [3,9,14,18] [] rfl (by kernel_rfl) ?_
 iterate 3
  refine ord_p ?_
 refine ord_r (y:=by intro w' hg;have q:=hg.cell c6 (fun h=>h);go_simp;with_reducible rfl) (z:=?_)
 iterate 2
  refine ord_p ?_
 iterate 5
  refine zGB rfl rfl rfl rfl (fun _ _ _ _ h=>h) ?_ ?_ ?_
  rotate_left 1
  ·simp only [Act.put,pB,pC,pD];rfl
 iterate 2
  refine ord_p ?_
 iterate 6
  refine zGB rfl rfl rfl rfl (fun _ _ _ _ h=>h) ?_ ?_ ?_
  rotate_left 1
  ·simp only [Act.put,pB,pC,pD];rfl
 iterate 2
  refine zKH rfl rfl rfl _ (by simp only [Act.put,pB,pC,pD];rfl) ?_
 refine zGB rfl rfl rfl rfl (fun _ _ _ _ h=>h) ?_ ?_ ?_
 rotate_left 1
 ·simp only [Act.put,pB,pC,pD];rfl
 refine ord_p ?_
 refine zF ?_
 clear c0 c1 c2 c3 c4 c5 c6 c7 c8 c9 c10 c11 c12 c13 c14 c15 c16 c17 c18 c19 c20 cf
 go_wp2
 go_ret
 exact ⟨rfl,(show RCell g { rc with closed:=false } w2.drew from H.out),HK.out.drew⟩
theorem zBJ {g b:Nat} {rc:RC} {p:PP} {d:Par} {G:Nat→Prop} {k:KS} {Gk:Nat→Prop} {w:World} (h:RcvAt g rc b p d G k Gk w) (hph:rc.phase=1) (i:Nat) (hi:i<chunksN d.sz) (hgb:getB d.known i=true) (hno:popB d.known<chunksN d.sz) (session:Int) (sum:Nat) (A2:Option Addr) (n2 c2':Nat) (hl:(n2:Int)=sizeN d.sz i) :
    Calls Tryz.prog 110 #[.pointer (some ⟨g,0,none⟩),.agg #[.int .i64 2,.int .u64 session,.int .i64 i,.int .i64 (chunksN d.sz:Nat),.int .u32 (sum:Nat),.slice none 0 0,.slice A2 n2 c2']] w fun e w'=>e=.returned (.slice none 0 0)∧RcvAt g { rc with closed:=false,resumed:=false } b p d G k Gk w'∧Keep (fun k=>k=g) w w':=by
 have hg0:=(Keep.refl NoB w).alloc (.cells #[.int .i64 2,.int .u64 session,.int .i64 i,.int .i64 (chunksN d.sz:Nat),.int .u32 (sum:Nat),.slice none 0 0,.slice A2 n2 c2'] 46)
 have HZ:=LH (heap_alloc_new w (.cells #[.int .i64 2,.int .u64 session,.int .i64 i,.int .i64 (chunksN d.sz:Nat),.int .u32 (sum:Nat),.slice none 0 0,.slice A2 n2 c2'] 46))
 have HLT:Hid (g<w.heap.size):=LH h.cell.lt
 have H:=LH (h.grow hg0)
 have HG:=LH hg0
 have HGB:=LH hgb
 clear hgb
 clear h hg0
 go_enter Tryz.func110,Tryz.ntmps110
 obtain ⟨c0,c1,c2,c3,c4,c5,c6,c7,c8,c9,c10,c11,c12,c13,c14,c15,c16,c17,c18,c19,c20,cf⟩:=zH H.out.cell
 go_wp2
 have h2:=H.out.put (rc':={ rc with closed:=false }) 20 (.bool false) rfl rfl rfl
 have HGN:Hid (¬ w.heap.size=g):=LH (fun e=>by have:=HLT.out;omega)
 replace HZ:=LH ((h2.2.block _ (gE HZ.out).1 HGN.out).trans HZ.out)
 have HK:=LH ((HG.out.mono (T:=fun k=>k=g) (fun _ h=>h.elim)).trans h2.2 (fun _ h=>.inl h))
 replace H:=LH h2.1
 clear h2 HG c0 c1 c2 c3 c4 c5 c6 c7 c8 c9 c10 c11 c12 c13 c14 c15 c16 c17 c18 c19 c20 cf
 generalize (w.alloc (.cells #[.int .i64 2,.int .u64 session,.int .i64 i,.int .i64 (chunksN d.sz:Nat),.int .u32 (sum:Nat),.slice none 0 0,.slice A2 n2 c2'] 46)).setCell ⟨g,20,none⟩ (.bool false)=w2 at H HZ HK ⊢
 obtain ⟨c0,c1,c2,c3,c4,c5,c6,c7,c8,c9,c10,c11,c12,c13,c14,c15,c16,c17,c18,c19,c20,cf⟩:=zH H.out.cell
 rw [show ({ rc with closed:=false }:RC).part=some ⟨b,0,none⟩ from H.out.part] at c0
 rw [show ({ rc with closed:=false }:RC).phase=1 from hph] at c6
 obtain ⟨z0,z1,z2,z3,z4,z5,z6,zf⟩:=zC HZ.out
 go_wp2
 refine zD [0,1,2,3,4,5,6,7,8,9,10,11,12,13,14,15,16,17,18,19,20,21,22] [19,20] [3,9,14,18] [] rfl (by kernel_rfl) ?_
 iterate 3
  refine ord_p ?_
 refine ord_r (y:=by intro w' hg;have q:=hg.cell c6 (fun h=>h);go_simp;with_reducible rfl) (z:=?_)
 iterate 2
  refine ord_p ?_
 iterate 3
  refine zS ?_
 refine zY (y:=by intro w' hg;have q:=hg.cell c0 (fun h=>h);go_simp;with_reducible rfl) (z:=?_)
 refine zS ?_
 iterate 2
  refine ord_p ?_
 refine zS ?_
 refine zY (y:=by intro w' hg;have q:=hg.cell z3 (fun h=>h);go_simp;with_reducible rfl) (z:=?_)
 iterate 3
  refine zS ?_
 refine zY (y:=by intro w' hg;have q:=hg.cell c0 (fun h=>h);go_simp;with_reducible rfl) (z:=?_)
 refine zAA rfl rfl rfl rfl rfl Tryz.func118 rfl rfl [.pointer (some ⟨b,0,none⟩)] rfl ?_
 refine (zkA (H.out.pat.grow (Keep.refl NoB w2).drew)).mono ?_
 rintro e w3 ⟨A4,c4',rfl,hg4,ho4⟩
 refine ⟨_,rfl,fun _=>hg4,?_⟩
 simp only [Act.put,pB,pC,pD]
 refine zAA rfl rfl rfl rfl rfl Tryz.func64 rfl rfl [.agg #[.int .u64 d.session,.slice A4 d.sz.length c4',.int .u32 (d.sum:Nat)]] rfl ?_
 refine (zd d.session d.sum A4 c4' d.sz w3 (SliceR.of_own ho4) H.out.pat.ok.fit).mono ?_
 rintro e w4 ⟨rfl,hg5⟩
 refine ⟨_,rfl,fun _=>hg5,?_⟩
 simp only [Act.put,pB,pC,pD]
 refine zS ?_
 refine ord_p ?_
 refine zF ?_
 have hgd:=((Keep.refl NoB w2).drew.grow hg4).grow hg5
 replace H:=LH (H.out.grow hgd)
 replace HK:=LH (HK.out.grow hgd)
 replace HZ:=LH (Grow.heap hgd HZ.out)
 clear hg4 hg5 ho4 hgd c0 c1 c2 c3 c4 c5 c6 c7 c8 c9 c10 c11 c12 c13 c14 c15 c16 c17 c18 c19 c20 cf z0 z1 z2 z3 z4 z5 z6 zf
 obtain ⟨c0,c1,c2,c3,c4,c5,c6,c7,c8,c9,c10,c11,c12,c13,c14,c15,c16,c17,c18,c19,c20,cf⟩:=zH H.out.cell
 go_wp2
 have h2:=H.out.put (rc':={ rc with closed:=false,resumed:=false }) 19 (.bool false) rfl rfl rfl
 replace HZ:=LH ((h2.2.block _ (gE HZ.out).1 HGN.out).trans HZ.out)
 replace HK:=LH (HK.out.trans h2.2 (fun _ h=>.inl h))
 replace H:=LH h2.1
 clear h2 c0 c1 c2 c3 c4 c5 c6 c7 c8 c9 c10 c11 c12 c13 c14 c15 c16 c17 c18 c19 c20 cf
 generalize w4.setCell ⟨g,19,none⟩ (.bool false)=w5 at H HZ HK ⊢
 obtain ⟨c0,c1,c2,c3,c4,c5,c6,c7,c8,c9,c10,c11,c12,c13,c14,c15,c16,c17,c18,c19,c20,cf⟩:=zH H.out.cell
 obtain ⟨z0,z1,z2,z3,z4,z5,z6,zf⟩:=zC HZ.out
 rw [show ({ rc with closed:=false,resumed:=false }:RC).part=some ⟨b,0,none⟩ from H.out.part] at c0
 refine zD [0,1,2,3,5,6,4,7,8] [4,7,8] [3,6] [] rfl (by kernel_rfl) ?_
 iterate 3
  refine ord_p ?_
 refine ord_r (y:=by intro w' hg;have q:=hg.cell c0 (fun h=>h);go_simp;with_reducible rfl) (z:=?_)
 refine ord_p ?_
 refine ord_r (y:=by intro w' hg;have q:=hg.cell z2 (fun h=>h);go_simp;with_reducible rfl) (z:=?_)
 refine zG rfl rfl rfl rfl rfl Tryz.func117 rfl rfl [.pointer (some ⟨b,0,none⟩)] rfl ?_
 refine (zpA (H.out.pat.grow (Keep.refl NoB w5).drew)).mono ?_
 rintro e w6 ⟨A6,c6',rfl,hg6,ho6⟩
 refine ⟨_,rfl,fun _=>hg6,?_⟩
 simp only [Act.put,pB,pC,pD]
 refine zG rfl rfl rfl rfl rfl Tryz.func82 rfl rfl [.slice A6 d.known.length c6',.int .i64 i] rfl ?_
 refine (zvA A6 c6' d.known H.out.pat.ok.known i (by have:=H.out.pat.ok.few;omega) w6 (SliceR.of_own ho6)).mono ?_
 rintro e w7 ⟨rfl,rfl⟩
 refine ⟨_,rfl,fun _=>Keep.refl _ _,?_⟩
 simp only [Act.put,pB,pC,pD]
 rw [HGB.out]
 refine ord_s ?_
 refine zF ?_
 have hgd:=(Keep.refl NoB w5).drew.grow hg6
 replace H:=LH (H.out.grow hgd)
 replace HK:=LH (HK.out.grow hgd)
 replace HZ:=LH (Grow.heap hgd HZ.out)
 clear hg6 ho6 hgd c0 c1 c2 c3 c4 c5 c6 c7 c8 c9 c10 c11 c12 c13 c14 c15 c16 c17 c18 c19 c20 cf z0 z1 z2 z3 z4 z5 z6 zf
 obtain ⟨c0,c1,c2,c3,c4,c5,c6,c7,c8,c9,c10,c11,c12,c13,c14,c15,c16,c17,c18,c19,c20,cf⟩:=zH H.out.cell
 obtain ⟨z0,z1,z2,z3,z4,z5,z6,zf⟩:=zC HZ.out
 rw [show ({ rc with closed:=false,resumed:=false }:RC).part=some ⟨b,0,none⟩ from H.out.part] at c0
 go_wp2
 refine zD [0,1,2,3,4,5,6,7,8,9] [8] [3,5,7] [] rfl (by kernel_rfl) ?_
 iterate 3
  refine ord_p ?_
 refine ord_r (y:=by intro w' hg;have q:=hg.cell c0 (fun h=>h);go_simp;with_reducible rfl) (z:=?_)
 refine ord_p ?_
 refine ord_r (y:=by intro w' hg;have q:=hg.cell z2 (fun h=>h);go_simp;with_reducible rfl) (z:=?_)
 refine ord_p ?_
 refine ord_r (y:=by intro w' hg;have q:=hg.cell z6 (fun h=>h);go_simp;with_reducible rfl) (z:=?_)
 refine zG rfl rfl rfl rfl rfl Tryz.func106 rfl rfl [.pointer (some ⟨b,0,none⟩),.int .i64 i,.slice A2 n2 c2'] rfl ?_
 refine (zHK (H.out.pat.grow (Keep.refl NoB w6).drew) i hi HGB.out A2 n2 c2' hl).mono ?_
 rintro e w8 ⟨rfl,hg8⟩
 refine ⟨_,rfl,fun _=>hg8,?_⟩
 simp only [Act.put,pB,pC,pD]
 refine ord_p ?_
 refine zF ?_
 have hgd:=(Keep.refl NoB w6).drew.grow hg8
 replace H:=LH (H.out.grow hgd)
 replace HK:=LH (HK.out.grow hgd)
 clear hg8 hgd c0 c1 c2 c3 c4 c5 c6 c7 c8 c9 c10 c11 c12 c13 c14 c15 c16 c17 c18 c19 c20 cf z0 z1 z2 z3 z4 z5 z6 zf
 go_wp2_with fail
 refine (zkE H.out.cell H.out.part H.out.pat hno).mono ?_
 rintro e w9 ⟨⟨v,rfl⟩,hg9⟩
 replace H:=LH (H.out.grow hg9)
 replace HK:=LH (HK.out.grow hg9)
 clear hg9
 obtain ⟨c0,c1,c2,c3,c4,c5,c6,c7,c8,c9,c10,c11,c12,c13,c14,c15,c16,c17,c18,c19,c20,cf⟩:=zH H.out.cell
 rw [show ({ rc with closed:=false,resumed:=false }:RC).phase=1 from hph] at c6
 go_wp2
 go_ret
 exact ⟨rfl,H.out,HK.out⟩
theorem zNK (x:Int) (h0:0≤x) (h1:x≤18446744073709551615):leW (putB x 8)=x:=by
 have e:putB x 8=[x%256,x/256%256,x/65536%256,x/16777216%256,x/4294967296%256,x/1099511627776%256,x/281474976710656%256,x/72057594037927936%256]:=by
  simp [putB,List.range,List.range.loop]
 rw [e]
 simp only [leW]
 omega
theorem zUE (x:Int) (ws:List Int):rB (x :: ws)=putB x 8++rB ws:=by simp [rB]
theorem zVE:∀ (ws:List Int) (j:Nat),(rB ws).drop (8*j)=rB (ws.drop j)
 | ws,0=>by simp
 | [],j+1=>by simp [rB]
 | x :: ws,j+1=>by
  rw [zUE,List.drop_succ_cons,← zVE ws j,show 8*(j+1)=(putB x 8).length+8*j by rw [zX];omega,List.drop_append,List.drop_of_length_le (by omega),List.nil_append]
  congr 1
  omega
theorem zWE:∀ (ws:List Int) (j:Nat),(rB ws).take (8*j)=rB (ws.take j)
 | ws,0=>by simp [rB]
 | [],j+1=>by simp [rB]
 | x :: ws,j+1=>by
  rw [zUE,List.take_succ_cons,zUE,← zWE ws j,show 8*(j+1)=(putB x 8).length+8*j by rw [zX];omega,List.take_append,List.take_of_length_le (by omega)]
  congr 2
  omega
theorem zoE (a:List (List Int)) (ho:OkA a) (i:Nat):chunkP a i=rB ((a.flatten.drop (8*i)).take 8):=by
 unfold chunkP pieceL
 rw [ztC a ho,show i*64=8*(8*i) by omega,zVE,show (64:Nat)=8*8 by rfl,zWE]
theorem zBE (a:List (List Int)) (ho:OkA a) (i:Nat):(chunkP a i).length=8*min 8 (a.flatten.length-8*i):=by
 rw [zoE a ho,zKB,List.length_take,List.length_drop]
theorem zoG (a:List (List Int)) (ho:OkA a) (i k:Nat) (hk:k<8) (hj:i*8+k<a.flatten.length):leW (pieceL (chunkP a i) 8 k)=a.flatten[i*8+k]:=by
 rw [zoE a ho]
 unfold pieceL
 have t8:∀ ws:List Int,(rB ws).take 8=rB (ws.take 1):=fun ws=>zWE ws 1
 rw [show k*8=8*k by omega,zVE,t8]
 have e:(((a.flatten.drop (8*i)).take 8).drop k).take 1=[a.flatten[i*8+k]]:=by
  apply List.ext_getElem
  ·simp only [List.length_take,List.length_drop,List.length_singleton];omega
  ·intro n h1 h2
   have h0:n=0:=by simpa using h2
   subst h0
   simp only [List.getElem_take,List.getElem_drop,List.getElem_singleton]
   congr 1
   omega
 rw [e]
 have hm:a.flatten[i*8+k]∈a.flatten:=List.getElem_mem hj
 obtain ⟨s,hs,hx⟩:=List.mem_flatten.1 hm
 have hb:=ho.nums s hs _ hx
 simp only [rB,List.flatMap_cons,List.flatMap_nil,List.append_nil]
 exact zNK _ hb.1 hb.2
theorem zEG (ws:List Int) (i:Nat) (bs:List Int):∀ (m j:Nat),j<ws.length→(setN ws i bs m).getD j 0=if i*8≤j∧j<i*8+m then leW (pieceL bs 8 (j-i*8)) else ws.getD j 0
 | 0,j,hj=>by rw [if_neg (by omega)];rfl
 | m + 1, j, hj => by
  have hl:j<(setN ws i bs m).length:=by rw [zNA];exact hj
  have ih:=zEG ws i bs m j hj
  simp only [setN]
  rw [List.getD_eq_getElem?_getD,List.getElem?_set]
  by_cases he:i*8+m=j
  ·rw [if_pos he,if_pos (by rw [zNA];omega),if_pos (by omega)]
   rw [Option.getD_some,show j-i*8=m by omega]
  ·rw [if_neg he,← List.getD_eq_getElem?_getD,ih]
   by_cases hc:i*8≤j∧j<i*8+m
   ·rw [if_pos hc,if_pos (by omega)]
   ·rw [if_neg hc,if_neg (by omega)]
def wordsK (fl kb:List Int):List Int:=(List.range fl.length).map (fun j=>if getB kb (j/8)=true then fl.getD j 0 else 0)
theorem zfA (fl kb:List Int):(wordsK fl kb).length=fl.length:=by simp [wordsK]
theorem zCE (fl kb:List Int) (j:Nat) (hj:j<fl.length):(wordsK fl kb).getD j 0=if getB kb (j/8)=true then fl.getD j 0 else 0:=by
 simp [wordsK,List.getD_eq_getElem?_getD,List.getElem?_map,List.getElem?_range,hj]
theorem zOK {a b:List Int} (hl:a.length=b.length) (h:∀ j,j<a.length→a.getD j 0=b.getD j 0):a=b:=by
 apply List.ext_getElem hl
 intro j h1 h2
 have:=h j h1
 rwa [List.getD_eq_getElem?_getD,List.getD_eq_getElem?_getD,List.getElem?_eq_getElem h1,List.getElem?_eq_getElem h2] at this
theorem zpG (fl:List Int) (n:Nat):wordsK fl (makeB n)=List.replicate fl.length 0:=by
 apply List.ext_getElem (by simp [wordsK])
 intro j h1 h2
 simp [wordsK,zrB]
theorem zDE {fl kb:List Int} (h:∀ i,i<(fl.length+7)/8→getB kb i=true):wordsK fl kb=fl:=by
 apply List.ext_getElem (zfA _ _)
 intro j h1 h2
 have:=h (j/8) (by omega)
 simp [wordsK,this,List.getD_eq_getElem?_getD,h2]
theorem zuH (a:List (List Int)) (ho:OkA a) (kb:List Int) (i:Nat) (hk:i/8<kb.length):setN (wordsK a.flatten kb) i (chunkP a i) ((chunkP a i).length/8)=wordsK a.flatten (setB kb i):=by
 apply zOK (by rw [zNA,zfA,zfA])
 intro j hj
 rw [zNA,zfA] at hj
 rw [zEG _ _ _ _ _ (by rw [zfA];exact hj),zCE _ _ _ hj,zCE _ _ _ hj,zUB,zBE a ho]
 by_cases hc:j/8=i
 ·rw [if_pos (by omega)]
  have hd:decide (j/8=i∧i/8<kb.length)=true:=decide_eq_true ⟨hc,hk⟩
  rw [hd,Bool.true_or,if_pos rfl,zoG a ho i (j-i*8) (by omega) (by omega)]
  have e:i*8+(j-i*8)=j:=by omega
  simp only [e]
  rw [List.getD_eq_getElem?_getD,List.getElem?_eq_getElem hj,Option.getD_some]
 ·rw [if_neg (by omega)]
  have hd:decide (j/8=i∧i/8<kb.length)=false:=decide_eq_false (fun h=>hc h.1)
  rw [hd,Bool.false_or]
theorem zbC (p:Nat→Bool):∀ n,(List.range (8*n)).filter p=(List.range n).flatMap (fun k=>((List.range 8).filter (fun j=>p (k*8+j))).map (fun j=>k*8+j))
 | 0=>by simp
 | n+1=>by
  rw [show 8*(n+1)=8*n+8 by omega,List.range_add,List.filter_append,zbC p n,show List.range (n+1)=List.range n++[n] from List.range_succ,List.flatMap_append]
  congr 1
  simp only [List.flatMap_cons,List.flatMap_nil,List.append_nil,List.filter_map]
  rw [show 8*n=n*8 by omega]
  rfl
theorem zPK (bs:List Int):eachL bs=(List.range (8*bs.length)).filter (getB bs):=by
 rw [zbC]
 unfold eachL bitL
 congr 1
 funext k
 congr 1
 apply List.filter_congr
 intro j hj
 have hj8:j<8:=List.mem_range.1 hj
 unfold getB
 rw [show (k*8+j)/8=k by omega,show (k*8+j)%8=j by omega]
structure BitsOk (kb:List Int) (q:Nat):Prop where
 ok:OkB kb
 len:kb.length=(q+7)/8
 out:∀ i,q≤i→getB kb i=false
theorem BitsOk.make (q:Nat):BitsOk (makeB q) q:=⟨OkB.make q,zNB q,fun i _=>zrB q i⟩
theorem BitsOk.set {kb:List Int} {q:Nat} (h:BitsOk kb q) {i:Nat} (hi:i<q):BitsOk (setB kb i) q:=by
 refine ⟨h.ok.set i,by rw [zyB];exact h.len,fun j hj=>?_⟩
 rw [zUB,h.out j hj,decide_eq_false (by omega)]
 rfl
theorem BitsOk.pop {kb:List Int} {q:Nat} (h:BitsOk kb q):popB kb=((List.range q).filter (getB kb)).length:=by
 unfold popB
 rw [zPK,h.len]
 have hq:8*((q+7)/8)=q+(8*((q+7)/8)-q):=by omega
 rw [hq,List.range_add,List.filter_append,List.length_append]
 have:((List.range (8*((q+7)/8)-q)).map (q+·)).filter (getB kb)=[]:=by
  rw [List.filter_eq_nil_iff]
  intro x hx
  obtain ⟨y,_,rfl⟩:=List.mem_map.1 hx
  rw [h.out _ (by omega)]
  simp
 rw [this]
 rfl
theorem BitsOk.pop_le {kb:List Int} {q:Nat} (h:BitsOk kb q):popB kb≤q:=by
 rw [h.pop]
 have:=List.length_filter_le (getB kb) (List.range q)
 rwa [List.length_range] at this
theorem BitsOk.full {kb:List Int} {q:Nat} (h:BitsOk kb q):q≤popB kb↔∀ i,i<q→getB kb i=true:=by
 rw [h.pop]
 constructor
 ·intro hq i hi
  have hl:=List.length_filter_le (getB kb) (List.range q)
  rw [List.length_range] at hl
  have he:((List.range q).filter (getB kb)).length=(List.range q).length:=by rw [List.length_range];omega
  have:=List.length_filter_eq_length_iff.1 he
  exact this i (List.mem_range.2 hi)
 ·intro hall
  rw [List.filter_eq_self.2 (fun i hi=>hall i (List.mem_range.1 hi)),List.length_range]
  exact Nat.le_refl _
theorem ziD:Tryz.prog.underlying 187=some (.map 3 69):=by kernel_rfl
theorem zQK:Tryz.prog.underlying 69=some (.func #[46] #[43] false):=by kernel_rfl
theorem zCD (f:FuncId) (r:Array Value) (w:World):(binOp .eql 69 (.func (.func f) r #[]) .nilFunc).run Tryz.prog w=.ok (.bool false) w:=by
 have h:(Op.equal 69 (.func (.func f) r #[]) .nilFunc).run Tryz.prog w=.ok false w:=by
  show (Op.equalIn (9999+1) 69 (.func (.func f) r #[]) .nilFunc).run Tryz.prog w=.ok false w
  unfold Op.equalIn
  simp [run_underlying zQK,Result.andThen]
 simp [binOp,h,Result.andThen]
theorem zqB {w:World} {r clock:Nat} {es:Array MapEntry} (k:Int) (val:Value) (hb:w.heap[r]? = some (.map es clock)) (hf:Instr.findNow (.int .i64) (.int .i64 k) es.toList 0=some none) :
    ∃ w2,(Instr.mapUpdate 187 (.map (some r)) (.int .i64 k) val).run Tryz.prog w=.ok () w2∧w2.heap[r]? = some (.map (es.push { key:=.int .i64 k,val:=val,born:=clock }) (clock+1))∧Keep (fun k=>k=r) w w2:=by
 refine ⟨{ w with heap:=w.heap.setIfInBounds r (.map (es.push { key:=.int .i64 k,val:=val,born:=clock }) (clock+1)) },?_,(MapKept.heap_set hb).1,(Keep.refl (fun k=>k=r) w).setObj (.inl rfl) _⟩
 have hc:(Instr.checkKey false 10000 3 (.int .i64 k)).run Tryz.prog w=.ok () w:=MapKept.run_checkKey u_int (by simp [MapKept.IsKey]) false 9999
 simp [Instr.mapUpdate,run_underlying ziD,MapKept.run_getObj_map hb,hc,MapKept.run_findKey u_int hf,MapKept.run_setObj_map _ hb,Result.andThen]
def rtV (f:FuncId) (g:Nat):Value:=.func (.func f) #[.pointer (some ⟨g,0,none⟩)] #[]
def rtE (g:Nat):Array MapEntry:=#[⟨.int .i64 1,rtV 109 g,0⟩,⟨.int .i64 2,rtV 110 g,1⟩,⟨.int .i64 5,rtV 111 g,2⟩,⟨.int .i64 7,rtV 112 g,3⟩,⟨.int .i64 8,rtV 113 g,4⟩]
theorem zXE (g:Nat) (w:World):∃ w1 w2 w3 w4 w5,(Instr.mapUpdate 187 (.map (some w.heap.size)) (.int .i64 1) (.func (.func 109) #[.pointer (some ⟨g,0,none⟩)] #[])).run Tryz.prog (w.alloc (.map #[] 0))=.ok () w1 ∧
    (Instr.mapUpdate 187 (.map (some w.heap.size)) (.int .i64 2) (.func (.func 110) #[.pointer (some ⟨g,0,none⟩)] #[])).run Tryz.prog w1=.ok () w2 ∧
    (Instr.mapUpdate 187 (.map (some w.heap.size)) (.int .i64 5) (.func (.func 111) #[.pointer (some ⟨g,0,none⟩)] #[])).run Tryz.prog w2=.ok () w3 ∧
    (Instr.mapUpdate 187 (.map (some w.heap.size)) (.int .i64 7) (.func (.func 112) #[.pointer (some ⟨g,0,none⟩)] #[])).run Tryz.prog w3=.ok () w4 ∧
    (Instr.mapUpdate 187 (.map (some w.heap.size)) (.int .i64 8) (.func (.func 113) #[.pointer (some ⟨g,0,none⟩)] #[])).run Tryz.prog w4=.ok () w5 ∧
    Hid (Grow w w5∧w5.heap[w.heap.size]? = some (.map (rtE g) 5)):=by
 have hb0:=heap_alloc_new w (.map #[] 0)
 have hg0:Keep (fun k=>k=w.heap.size) w (w.alloc (.map #[] 0)):=((Keep.refl NoB w).alloc (.map #[] 0)).mono (fun _ h=>h.elim)
 obtain ⟨w1,r1,b1,k1⟩:=zqB 1 (rtV 109 g) hb0 rfl
 obtain ⟨w2,r2,b2,k2⟩:=zqB 2 (rtV 110 g) b1 (by rfl)
 obtain ⟨w3,r3,b3,k3⟩:=zqB 5 (rtV 111 g) b2 (by rfl)
 obtain ⟨w4,r4,b4,k4⟩:=zqB 7 (rtV 112 g) b3 (by rfl)
 obtain ⟨w5,r5,b5,k5⟩:=zqB 8 (rtV 113 g) b4 (by rfl)
 exact ⟨w1,w2,w3,w4,w5,r1,r2,r3,r4,r5,LH ⟨(((((hg0.trans k1 (fun _ h=>.inl h)).trans k2 (fun _ h=>.inl h)).trans k3 (fun _ h=>.inl h)).trans k4 (fun _ h=>.inl h)).trans k5 (fun _ h=>.inl h)).new (fun i e=>by rw [e];exact Nat.le_refl _),b5⟩⟩
theorem zYE {w:World} {b g:Nat} (hb:w.heap[b]? = some (.map (rtE g) 5)) (k:Int) (v:Value) (hf:∃ r,Instr.findNow (.int .i64) (.int .i64 k) (rtE g).toList 0=some r∧(match r with | some (_,v)=>v | none=>.nilFunc)=v):(Instr.lookup 187 (.map (some b)) (.int .i64 k) false).run Tryz.prog w=.ok v w:=by
 have hc:(Instr.checkKey false 10000 3 (.int .i64 k)).run Tryz.prog w=.ok () w:=MapKept.run_checkKey u_int (by simp [MapKept.IsKey]) false 9999
 have hz:(zeroValue 69).run Tryz.prog w=.ok .nilFunc w:=by simp [Tryz.zeroValue69]
 obtain ⟨r,hr,hv⟩:=hf
 rw [← hv]
 have he:((rtE g).isEmpty)=false:=rfl
 rcases r with _ | ⟨i,v⟩
 ·simp [Instr.lookup,run_underlying ziD,MapKept.run_getObj_map hb,hc,he,MapKept.run_findKey u_int hr,hz,Result.andThen]
 ·simp [Instr.lookup,run_underlying ziD,MapKept.run_getObj_map hb,hc,he,MapKept.run_findKey u_int hr,Result.andThen]
theorem zFC {g:Nat} {rc:RC} {w:World} (h:RCell g rc w) (session index of:Int) (sum:Nat) (A1 A2:Option Addr) (n1 c1' n2 c2':Nat) (R:Value→World→Prop) (hph:rc.phase≠3) (hc:∀ w1,Grow w w1→Calls Tryz.prog 109 #[.pointer (some ⟨g,0,none⟩),.agg #[.int .i64 1,.int .u64 session,.int .i64 index,.int .i64 of,.int .u32 (sum:Nat),.slice A1 n1 c1',.slice A2 n2 c2']] w1 fun e w'=>∃ v,e=.returned v∧R v w') :
    Calls Tryz.prog 39 #[.pointer (some ⟨g,0,none⟩),.agg #[.int .i64 1,.int .u64 session,.int .i64 index,.int .i64 of,.int .u32 (sum:Nat),.slice A1 n1 c1',.slice A2 n2 c2']] w fun e w'=>∃ v,e=.returned v∧R v w':=by
 have hd0:=(Keep.refl NoB w).alloc (.cells #[.int .i64 1,.int .u64 session,.int .i64 index,.int .i64 of,.int .u32 (sum:Nat),.slice A1 n1 c1',.slice A2 n2 c2'] 46)
 have HC:=LH (heap_alloc_new w (.cells #[.int .i64 1,.int .u64 session,.int .i64 index,.int .i64 of,.int .u32 (sum:Nat),.slice A1 n1 c1',.slice A2 n2 c2'] 46))
 have HG:=LH hd0
 have H:=LH (h.grow hd0)
 have HQ:=LH hc
 have hpb:(rc.phase==3)=false:=by simpa using hph
 clear h hd0 hc hph
 go_enter Tryz.func39,Tryz.ntmps39
 obtain ⟨w1,w2,w3,w4,w5,r1,r2,r3,r4,r5,HM⟩:=zXE g (w.alloc (.cells #[.int .i64 1,.int .u64 session,.int .i64 index,.int .i64 of,.int .u32 (sum:Nat),.slice A1 n1 c1',.slice A2 n2 c2'] 46))
 have hsz:(w.alloc (.cells #[.int .i64 1,.int .u64 session,.int .i64 index,.int .i64 of,.int .u32 (sum:Nat),.slice A1 n1 c1',.slice A2 n2 c2'] 46)).heap.size=w.heap.size+1:=by simp
 rw [hsz] at r1 r2 r3 r4 r5 HM
 have hm:=@run_makeMap Tryz.prog
 have hlook:=zYE HM.out.2 1 (rtV 109 g) ⟨_,rfl,rfl⟩
 unfold rtV at hlook
 have hnq:=zCD
 obtain ⟨z0,z1,z2,z3,z4,z5,z6,zf⟩:=zC (Grow.heap HM.out.1 HC.out)
 obtain ⟨c0,c1,c2,c3,c4,c5,c6,c7,c8,c9,c10,c11,c12,c13,c14,c15,c16,c17,c18,c19,c20,cf⟩:=zH H.out
 have HG5:=LH (HG.out.grow HM.out.1)
 go_wp2_with fail
 refine (HQ.out _ HG5.out).mono ?_
 rintro e w6 ⟨v,rfl,hr⟩
 have HR:=LH hr
 clear hr
 go_wp2
 go_ret
 exact ⟨_,rfl,HR.out⟩
theorem zUC {g:Nat} {rc:RC} {w:World} (h:RCell g rc w) (session index of:Int) (sum:Nat) (A1 A2:Option Addr) (n1 c1' n2 c2':Nat) (R:Value→World→Prop) (hph:rc.phase≠3) (hp0:rc.phase≠0) (hs:session=rc.session) (hm:sum=rc.sum) (hc:∀ w1,Grow w w1→Calls Tryz.prog 110 #[.pointer (some ⟨g,0,none⟩),.agg #[.int .i64 2,.int .u64 session,.int .i64 index,.int .i64 of,.int .u32 (sum:Nat),.slice A1 n1 c1',.slice A2 n2 c2']] w1 fun e w'=>∃ v,e=.returned v∧R v w') :
    Calls Tryz.prog 39 #[.pointer (some ⟨g,0,none⟩),.agg #[.int .i64 2,.int .u64 session,.int .i64 index,.int .i64 of,.int .u32 (sum:Nat),.slice A1 n1 c1',.slice A2 n2 c2']] w fun e w'=>∃ v,e=.returned v∧R v w':=by
 have hd0:=(Keep.refl NoB w).alloc (.cells #[.int .i64 2,.int .u64 session,.int .i64 index,.int .i64 of,.int .u32 (sum:Nat),.slice A1 n1 c1',.slice A2 n2 c2'] 46)
 have HC:=LH (heap_alloc_new w (.cells #[.int .i64 2,.int .u64 session,.int .i64 index,.int .i64 of,.int .u32 (sum:Nat),.slice A1 n1 c1',.slice A2 n2 c2'] 46))
 have HG:=LH hd0
 have H:=LH (h.grow hd0)
 have HQ:=LH hc
 have hpb:(rc.phase==3)=false:=by simpa using hph
 have hpb0:(rc.phase==0)=false:=by simpa using hp0
 have hsb:(session != rc.session)=false:=by simp [hs]
 have hmb:(((sum:Nat):Int) != ((rc.sum:Nat):Int))=false:=by simp [hm]
 clear h hd0 hc hph hp0 hs hm
 go_enter Tryz.func39,Tryz.ntmps39
 obtain ⟨w1,w2,w3,w4,w5,r1,r2,r3,r4,r5,HM⟩:=zXE g (w.alloc (.cells #[.int .i64 2,.int .u64 session,.int .i64 index,.int .i64 of,.int .u32 (sum:Nat),.slice A1 n1 c1',.slice A2 n2 c2'] 46))
 have hsz:(w.alloc (.cells #[.int .i64 2,.int .u64 session,.int .i64 index,.int .i64 of,.int .u32 (sum:Nat),.slice A1 n1 c1',.slice A2 n2 c2'] 46)).heap.size=w.heap.size+1:=by simp
 rw [hsz] at r1 r2 r3 r4 r5 HM
 have hm:=@run_makeMap Tryz.prog
 have hlook:=zYE HM.out.2 2 (rtV 110 g) ⟨_,rfl,rfl⟩
 unfold rtV at hlook
 have hnq:=zCD
 have HC5:=LH (Grow.heap HM.out.1 HC.out)
 obtain ⟨z0,z1,z2,z3,z4,z5,z6,zf⟩:=zC HC5.out
 have H5:=LH (H.out.grow HM.out.1)
 have HG5:=LH (HG.out.grow HM.out.1)
 obtain ⟨c0,c1,c2,c3,c4,c5,c6,c7,c8,c9,c10,c11,c12,c13,c14,c15,c16,c17,c18,c19,c20,cf⟩:=zH H.out
 obtain ⟨d0,d1,d2,d3,d4,d5,d6,d7,d8,d9,d10,d11,d12,d13,d14,d15,d16,d17,d18,d19,d20,df⟩:=zH H5.out
 clear HM H HG
 go_wp2
 refine zD (List.range 29) [28] [3,7,11,16,20,24] [] rfl (by kernel_rfl) ?_
 simp only [List.range,List.range.loop]
 iterate 3
  refine ord_p ?_
 refine ord_r (y:=by intro w' hg;have q:=hg.cell d6 (fun h=>h);go_simp;with_reducible rfl) (z:=?_)
 iterate 2
  refine ord_p ?_
 refine zS ?_
 refine zY (y:=by intro w' hg;have q:=hg.cell z1 (fun h=>h);go_simp;with_reducible rfl) (z:=?_)
 iterate 3
  refine zS ?_
 refine zY (y:=by intro w' hg;have q:=hg.cell d8 (fun h=>h);go_simp;with_reducible rfl) (z:=?_)
 refine zS ?_
 iterate 2
  refine ord_p ?_
 refine zS ?_
 refine zY (y:=by intro w' hg;have q:=hg.cell z4 (fun h=>h);go_simp;with_reducible rfl) (z:=?_)
 iterate 3
  refine zS ?_
 refine zY (y:=by intro w' hg;have q:=hg.cell d9 (fun h=>h);go_simp;with_reducible rfl) (z:=?_)
 iterate 2
  refine zS ?_
 iterate 3
  refine zGB rfl rfl rfl rfl (fun _ _ _ _ h=>h) ?_ ?_ ?_
  rotate_left 1
  ·simp only [Act.put,pB,pC,pD];rfl
 refine zS ?_
 refine ord_p ?_
 refine ord_s ?_
 refine zF ?_
 replace HC5:=LH (show w5.drew.heap[_]? = _ from HC5.out)
 replace HG5:=LH HG5.out.drew
 clear z0 z1 z2 z3 z4 z5 z6 zf c0 c1 c2 c3 c4 c5 c6 c7 c8 c9 c10 c11 c12 c13 c14 c15 c16 c17 c18 c19 c20 cf d0 d1 d2 d3 d4 d5 d6 d7 d8 d9 d10 d11 d12 d13 d14 d15 d16 d17 d18 d19 d20 df hlook hnq hm r1 r2 r3 r4 r5 H5
 generalize w5.drew=w6 at HC5 HG5 ⊢
 obtain ⟨z0,z1,z2,z3,z4,z5,z6,zf⟩:=zC HC5.out
 go_wp2_with fail
 refine (HQ.out _ HG5.out).mono ?_
 rintro e w7 ⟨v,rfl,hr⟩
 have HR:=LH hr
 clear hr
 go_wp2
 go_ret
 exact ⟨_,rfl,HR.out⟩
theorem zvH {g:Nat} {rc:RC} {w:World} (h:RCell g rc w) (session index of:Int) (sum:Nat) (A1 A2:Option Addr) (n1 c1' n2 c2':Nat) (hp0:rc.phase=0) :
    Calls Tryz.prog 39 #[.pointer (some ⟨g,0,none⟩),.agg #[.int .i64 2,.int .u64 session,.int .i64 index,.int .i64 of,.int .u32 (sum:Nat),.slice A1 n1 c1',.slice A2 n2 c2']] w fun e w'=>∃ b,e=.returned (.slice (some ⟨b,0,none⟩) 1 1)∧OneG w' b 3 session 0 0 sum∧w.heap.size≤b∧Grow w w':=by
 have hd0:=(Keep.refl NoB w).alloc (.cells #[.int .i64 2,.int .u64 session,.int .i64 index,.int .i64 of,.int .u32 (sum:Nat),.slice A1 n1 c1',.slice A2 n2 c2'] 46)
 have HC:=LH (heap_alloc_new w (.cells #[.int .i64 2,.int .u64 session,.int .i64 index,.int .i64 of,.int .u32 (sum:Nat),.slice A1 n1 c1',.slice A2 n2 c2'] 46))
 have HG:=LH hd0
 have H:=LH (h.grow hd0)
 clear h hd0
 go_enter Tryz.func39,Tryz.ntmps39
 obtain ⟨w1,w2,w3,w4,w5,r1,r2,r3,r4,r5,HM⟩:=zXE g (w.alloc (.cells #[.int .i64 2,.int .u64 session,.int .i64 index,.int .i64 of,.int .u32 (sum:Nat),.slice A1 n1 c1',.slice A2 n2 c2'] 46))
 have hsz:(w.alloc (.cells #[.int .i64 2,.int .u64 session,.int .i64 index,.int .i64 of,.int .u32 (sum:Nat),.slice A1 n1 c1',.slice A2 n2 c2'] 46)).heap.size=w.heap.size+1:=by simp
 rw [hsz] at r1 r2 r3 r4 r5 HM
 have hm:=@run_makeMap Tryz.prog
 have hlook:=zYE HM.out.2 2 (rtV 110 g) ⟨_,rfl,rfl⟩
 unfold rtV at hlook
 have hnq:=zCD
 obtain ⟨z0,z1,z2,z3,z4,z5,z6,zf⟩:=zC (Grow.heap HM.out.1 HC.out)
 have H5:=LH (H.out.grow HM.out.1)
 have HG5:=LH (HG.out.grow HM.out.1)
 obtain ⟨c0,c1,c2,c3,c4,c5,c6,c7,c8,c9,c10,c11,c12,c13,c14,c15,c16,c17,c18,c19,c20,cf⟩:=zH H.out
 rw [hp0] at c6
 obtain ⟨d0,d1,d2,d3,d4,d5,d6,d7,d8,d9,d10,d11,d12,d13,d14,d15,d16,d17,d18,d19,d20,df⟩:=zH H5.out
 rw [hp0] at d6
 clear HM H HG
 go_wp2
 go_ret
 have hsz:=HG5.out.size
 exact ⟨_,rfl,heap_alloc_new w5 _,hsz,HG5.out.grow ((Keep.refl NoB w5).alloc _)⟩
theorem zDD {g:Nat} {rc:RC} {w:World} (h:RCell g rc w) (session index of:Int) (sum:Nat) (A1 A2:Option Addr) (n1 c1' n2 c2':Nat) (hp3:rc.phase=3) (k:Int) :
    Calls Tryz.prog 39 #[.pointer (some ⟨g,0,none⟩),.agg #[.int .i64 k,.int .u64 session,.int .i64 index,.int .i64 of,.int .u32 (sum:Nat),.slice A1 n1 c1',.slice A2 n2 c2']] w fun e w'=>e=.returned (.slice none 0 0)∧Grow w w':=by
 have hd0:=(Keep.refl NoB w).alloc (.cells #[.int .i64 k,.int .u64 session,.int .i64 index,.int .i64 of,.int .u32 (sum:Nat),.slice A1 n1 c1',.slice A2 n2 c2'] 46)
 have HG:=LH hd0
 have H:=LH (h.grow hd0)
 clear h hd0
 go_enter Tryz.func39,Tryz.ntmps39
 obtain ⟨c0,c1,c2,c3,c4,c5,c6,c7,c8,c9,c10,c11,c12,c13,c14,c15,c16,c17,c18,c19,c20,cf⟩:=zH H.out
 rw [hp3] at c6
 go_wp2
 go_ret
 exact ⟨rfl,HG.out⟩
theorem zqG {g:Nat} {rc:RC} {w:World} {ad:Addr} (h:RCell g rc w) (hph:rc.phase≠0) (hpt:rc.part=some ad) (index of:Int) (A1 A2:Option Addr) (n1 c1' n2 c2':Nat) :
    Calls Tryz.prog 109 #[.pointer (some ⟨g,0,none⟩),.agg #[.int .i64 1,.int .u64 rc.session,.int .i64 index,.int .i64 of,.int .u32 (rc.sum:Nat),.slice A1 n1 c1',.slice A2 n2 c2']] w fun e w'=>e=.returned (.slice none 0 0)∧RCell g { rc with resumed:=false,closed:=false } w'∧Keep (fun k=>k=g) w w':=by
 have hg0:=(Keep.refl NoB w).alloc (.cells #[.int .i64 1,.int .u64 rc.session,.int .i64 index,.int .i64 of,.int .u32 (rc.sum:Nat),.slice A1 n1 c1',.slice A2 n2 c2'] 46)
 have HLT:Hid (g<w.heap.size):=LH h.lt
 have H:=LH (h.grow hg0)
 have HZ:=LH (heap_alloc_new w (.cells #[.int .i64 1,.int .u64 rc.session,.int .i64 index,.int .i64 of,.int .u32 (rc.sum:Nat),.slice A1 n1 c1',.slice A2 n2 c2'] 46))
 have HG:=LH hg0
 have hpb:(rc.phase != 0)=true:=by simpa using hph
 clear h hg0 hph
 go_enter Tryz.func109,Tryz.ntmps109
 obtain ⟨c0,c1,c2,c3,c4,c5,c6,c7,c8,c9,c10,c11,c12,c13,c14,c15,c16,c17,c18,c19,c20,cf⟩:=zH H.out
 rw [hpt] at c0
 obtain ⟨z0,z1,z2,z3,z4,z5,z6,zf⟩:=zC HZ.out
 go_wp2_with fail
 refine (zCB H.out 1 rc.session index of rc.sum A1 A2 n1 c1' n2 c2').mono ?_
 rintro e w1 ⟨rfl,hg⟩
 replace H:=LH (H.out.grow hg)
 replace HG:=LH (HG.out.grow hg)
 have hdd:decide (rc.session=rc.session∧rc.sum=rc.sum)=true:=by simp
 rw [hdd]
 clear hg hdd c0 c1 c2 c3 c4 c5 c6 c7 c8 c9 c10 c11 c12 c13 c14 c15 c16 c17 c18 c19 c20 cf z0 z1 z2 z3 z4 z5 z6 zf
 obtain ⟨c0,c1,c2,c3,c4,c5,c6,c7,c8,c9,c10,c11,c12,c13,c14,c15,c16,c17,c18,c19,c20,cf⟩:=zH H.out
 rw [hpt] at c0
 have h1:=H.out.put (d':={ rc with resumed:=false }) 19 (.bool false) rfl
 have h2:=h1.1.put (d':={ rc with resumed:=false,closed:=false }) 20 (.bool false) rfl
 have HN:=LH (And.intro h2.1 ((HG.out.mono (T:=fun k=>k=g) (fun _ h=>h.elim)).trans (h1.2.trans h2.2 (fun _ h=>.inl h)) (fun _ h=>.inl h)))
 clear h1 h2
 go_wp2
 go_ret
 exact ⟨rfl,HN.out⟩
theorem zrG (A:Option Addr) (c:Nat) (l:List Int) (w:World) (h:SliceR 1 (.slice A l.length c) l.length (ints l) w) (hnn:∀ x∈l,0≤x∧x≤100000) (hl:l.length≤100000) (hf:fitsB l=false) :
    Calls Tryz.prog 144 #[.slice A l.length c] w fun e w'=>e=.returned (.bool false)∧w=w':=by
 have H:=LH h
 have HN:=LH hnn
 have HF:=LH hf
 clear h hnn hf
 by_cases h1:((l.length:Nat):Int)<1
 ·go_enter Tryz.func144,Tryz.ntmps144
  go_wp2
  go_ret
  exact ⟨rfl,rfl⟩
 by_cases h2:(16:Int)<((l.length:Nat):Int)
 ·go_enter Tryz.func144,Tryz.ntmps144
  go_wp2
  go_ret
  exact ⟨rfl,rfl⟩
 obtain ⟨ad,rfl,q0⟩:=SliceR.int_at (k:=.i64) H.out 0 (by omega)
 have q0':w.cell? ad=some (.int .i64 l[0]):=by simpa [Addr.add] using q0
 clear q0
 by_cases hx:l[0]<1
 ·go_enter Tryz.func144,Tryz.ntmps144
  go_wp2
  go_ret
  exact ⟨rfl,rfl⟩
 have HS:Hid (4096<l.sum):=LH (by
  have hf:=HF.out
  unfold fitsB at hf
  rw [decide_eq_false_iff_not] at hf
  rcases (show 4096<l.sum∨l.sum≤4096 by omega) with h | h
  ·exact h
  ·refine absurd ⟨by omega,by omega,?_,fun x hx=>(HN.out x hx).1,h⟩ hf
   cases hl2:l with
   | nil=>rw [hl2] at h1;simp at h1
   | cons x r =>
    simp only [hl2,List.getElem_cons_zero] at hx
    simp
    omega)
 go_enter Tryz.func144,Tryz.ntmps144
 go_wp2
 clear q0' hx
 go_loopw [3,4] (fun vn v wr=>wr=w∧∃ (k:Nat) (s:Int),k≤l.length∧v=.int .i64 k∧vn=.int .i64 s∧Hid (s=(l.take k).sum)∧0≤s∧s≤4096) (fun _ v _=>l.length-(intOf v).toNat)
 case atStart=>exact ⟨rfl,0,0,by omega,rfl,rfl,LH (by simp),by omega,by omega⟩
 case round =>
  obtain ⟨rfl,k,s,hk,rfl,rfl,HT,hs0,hs1⟩:=hrel
  by_cases hlt:k<l.length
  ·obtain ⟨ad2,e,q1⟩:=SliceR.int_at (k:=.i64) H.out k hlt
   injection e with e
   subst e
   have hw:IntKind.i64.wrap ((k:Int)+1)=(k:Int)+1:=IntWalk.i64_in _ (by omega)
   have hlt':(k:Int)<l.length:=by omega
   have hsu:=zFA hlt
   have hn0:0≤l[k]:=(HN.out _ (List.getElem_mem hlt)).1
   have hn1:l[k]≤100000:=(HN.out _ (List.getElem_mem hlt)).2
   have hs9:=HT.out
   have hw2:IntKind.i64.wrap (4096-s)=4096-s:=IntWalk.i64_in _ (by omega)
   have hw3:IntKind.i64.wrap (s+l[k])=s+l[k]:=IntWalk.i64_in _ (by omega)
   have hb1:¬ (l[k]<0):=by omega
   have HR:Hid (s+l[k]=(l.take (k+1)).sum):=LH (by omega)
   clear hsu hs9
   by_cases hb2:4096-s<l[k]
   ·go_wp2
    go_ret
    exact ⟨rfl,rfl⟩
   ·have HR2:Hid (0≤s+l[k]∧s+l[k]≤4096):=LH ⟨by omega,by omega⟩
    go_wp2
    go_roundw
    case rel=>exact ⟨trivial,k+1,s+l[k],by omega,by go_num,rfl,HR,HR2.out.1,HR2.out.2⟩
    case measure=>simp [intOf];omega
  ·obtain rfl:k=l.length:=by omega
   have h3:=HT.out
   have h4:=HS.out
   rw [List.take_length] at h3
   omega
theorem zFG (a:List (List Int)) (ho:OkA a) (A:Option Addr) (c:Nat) (w:World) (h:RowsR .u64 a (.slice A a.length c) w) (hf:fitsB (szs a)=false) :
    Calls Tryz.prog 69 #[.slice A a.length c] w fun e w'=>e=.returned (.bool false)∧Grow w w':=by
 have hl:=ho.segs
 have HS:=LH (zoA a A c w h (by omega))
 have HF:=LH hf
 have HB:Hid (∀ x∈szs a,0≤x∧x≤100000):=LH (fun x hx=>by
  obtain ⟨s,hs,rfl⟩:=List.mem_map.1 hx
  have:=ho.words s hs
  omega)
 have HL:Hid ((szs a).length≤100000):=LH (by rw [zi];exact hl)
 clear h hf hl ho
 go_enter Tryz.func69,Tryz.ntmps69
 go_wp2_with fail
 refine HS.out.mono ?_
 rintro e w1 ⟨A1,c1,rfl,hg,ho⟩
 have HO:=LH (SliceR.of_own ho)
 have HG:=LH hg
 clear hg ho
 go_wp2_with fail
 refine (zrG A1 c1 (szs a) w1 HO.out HB.out HL.out HF.out).mono ?_
 rintro e w2 ⟨rfl,rfl⟩
 go_wp2
 go_ret
 exact ⟨rfl,HG.out⟩
theorem zdB (session sum:Int) (l:List Int) (A:Option Addr) (c:Nat) (w:World) (h:SliceR 1 (.slice A l.length c) l.length (ints l) w) (hf:fitsB l=true) :
    Calls Tryz.prog 21 #[.agg #[.int .u64 session,.slice A l.length c,.int .u32 sum]] w fun e w'=>e=.returned (.int .i64 (pagesN l:Nat))∧Grow w w':=by
 have hga:=(Keep.refl NoB w).alloc (.cells #[.int .u64 session,.slice A l.length c,.int .u32 sum] 40)
 have HG:=LH hga
 have HH:=LH (h.grow hga)
 have HC:=LH (heap_alloc_new w (.cells #[.int .u64 session,.slice A l.length c,.int .u32 sum] 40))
 have HF:=LH hf
 obtain ⟨m0,m1,m2,mf⟩:=zI HC.out
 have hl:=(zN hf).2.1
 have hw3:IntKind.i64.wrap ((l.length:Int)+3)=(l.length:Int)+3:=IntWalk.i64_in _ (by omega)
 have h30:0≤(l.length:Int)+3:=by omega
 have hw4:IntKind.i64.wrap (((l.length:Int)+3)/4)=((l.length:Int)+3)/4:=IntWalk.i64_in _ (by omega)
 clear h hf hga
 go_enter Tryz.func21,Tryz.ntmps21
 go_wp2_with fail
 refine (zvC session sum l A c _ HH.out HF.out).mono ?_
 rintro e w1 ⟨rfl,hg⟩
 replace HG:=LH (HG.out.grow hg)
 replace HC:=LH (Grow.heap hg HC.out)
 clear hg m0 m1 m2 mf
 obtain ⟨m0,m1,m2,mf⟩:=zI HC.out
 go_wp2
 go_ret
 refine ⟨?_,HG.out⟩
 unfold pagesN
 congr 2
 try omega
theorem SliceR.sub {ad:Addr} {c:Nat} {l:List Int} {f:Int→Value} {w:World} (h:SliceR 1 (.slice (some ad) l.length c) l.length (l.map f) w) (o m:Nat) (hm:o+m≤l.length):SliceR 1 (.slice (some (ad.add o)) m (c-o)) m (((l.drop o).take m).map f) w:=by
 obtain ⟨A',c',e,hc,hl,hA,hq⟩:=h
 injection e with e1 e2 e3
 subst e1;subst e3
 refine ⟨_,_,rfl,by omega,by simp;omega,(fun e=>by cases e),fun j u hu=>⟨_,rfl,?_⟩⟩
 have hj:j<m:=by
  rcases Nat.lt_or_ge j m with h | h
  ·exact h
  ·rw [List.getElem?_eq_none (by simp;omega)] at hu;cases hu
 have hu2:(l.map f)[o+j]? = some u:=by
  rw [← hu]
  simp [hj]
 obtain ⟨ad',e,hc'⟩:=hq (o+j) u hu2
 injection e with e
 subst e
 rw [Addr.add_add]
 exact hc'
theorem zCF (a:List (List Int)) (ho:OkA a) (hfit:fitsB (szs a)=true) (hfl:a.flatten.length≤1000000) (i:Nat) (hi:64*i<(rB a.flatten).length) (A:Option Addr) (c:Nat) (w:World) (hR:RowsR .u64 a (.slice A a.length c) w) :
    Calls Tryz.prog 31 #[.slice A a.length c,.int .i64 i] w fun e w'=>∃ A c,e=.returned (.slice A (chunkP a i).length c)∧Grow w w'∧Foot (SliceR 1 (.slice A (chunkP a i).length c) (chunkP a i).length (u8s (chunkP a i))) w' (fun k=>w.heap.size≤k∧k<w'.heap.size):=by
 have HB:=LH (zuC a ho hfl A c w hR)
 have H:=LH hR
 have HF:=LH hfit
 have EC:Hid (chunkP a i=((rB a.flatten).drop (64*i)).take 64):=LH (by unfold chunkP pieceL;rw [ztC a ho,Nat.mul_comm])
 have hbl:(rB a.flatten).length≤8000000:=by rw [zKB];omega
 clear hR hfit hfl ho
 go_enter Tryz.func31,Tryz.ntmps31
 go_wp2_with fail
 refine HB.out.mono ?_
 rintro e w1 ⟨A1,c1,rfl,hg,hown⟩
 obtain ⟨r,cap,e1,_,hcap,hcells⟩:=zMA hown (by omega)
 injection e1 with e1 _ e3
 subst e1
 subst e3
 have HG:=LH hg
 replace H:=LH (H.out.grow hg)
 have HC:=LH hcells
 have HO:Hid (Foot (SliceR 1 (.slice (some ⟨r,0,none⟩) (rB a.flatten).length c1) (rB a.flatten).length (u8s (rB a.flatten))) w1 (fun k=>w.heap.size≤k∧k<w1.heap.size)):=LH ((Foot.of_own hown).mono (fun k hk=>hk.2) (fun k hk=>hown.lt k hk))
 clear hg hown hcells HB
 go_wp2_with fail
 refine (zCC a A c w1 H.out HF.out).mono ?_
 rintro e w2 ⟨rfl,hg⟩
 replace HG:=LH (HG.out.grow hg)
 have HO2:Hid (Foot (SliceR 1 (.slice (some ⟨r,0,none⟩) (rB a.flatten).length c1) (rB a.flatten).length (u8s (rB a.flatten))) w2 (fun k=>w.heap.size≤k∧k<w2.heap.size)):=LH ((HO.out.grow hg).mono (fun k hk=>hk.2) (fun k hk=>⟨hk.1,Nat.lt_of_lt_of_le hk.2 hg.size⟩))
 have HC2:Hid (∀ (j:Nat) u,(u8s (rB a.flatten))[j]? = some u→w2.cell? ⟨r,0+j,none⟩=some u):=LH (fun j u hu=>hg.cell (HC.out j u hu) (fun h=>h))
 clear hg
 generalize rB a.flatten=bs at *
 have hi0:¬ ((i:Int)<0):=by omega
 have hi1:0≤(i:Int):=by omega
 have hw1:IntKind.i64.wrap ((bs.length:Int)+63)=(bs.length:Int)+63:=IntWalk.i64_in _ (by omega)
 have hw2:IntKind.i64.wrap (64*(i:Int))=64*(i:Int):=IntWalk.i64_in _ (by omega)
 have hw3:IntKind.i64.wrap (64*(i:Int)+64)=64*(i:Int)+64:=IntWalk.i64_in _ (by omega)
 have hp:0≤(bs.length:Int)+63:=by omega
 have hge:¬ (((bs.length:Int)+63)/64≤(i:Int)):=by omega
 have h641:64*(i:Int)≤c1:=by omega
 have HFIN:∀ m,m=min 64 (bs.length-64*i)→Hid (Foot (SliceR 1 (.slice (some ⟨r,64*i,none⟩) (chunkP a i).length (c1-64*i)) (chunkP a i).length (u8s (chunkP a i))) w2 (fun k=>w.heap.size≤k∧k<w2.heap.size)∧(chunkP a i).length=m):=fun m hm=>by
  have e1:(chunkP a i).length=m:=by rw [EC.out];simp;omega
  have e2:chunkP a i=(bs.drop (64*i)).take m:=by
   rw [EC.out]
   rcases Nat.le_total 64 (bs.length-64*i) with h | h
   ·rw [show m=64 from by omega]
   ·rw [List.take_of_length_le (by simp;omega),List.take_of_length_le (by simp;omega)]
  refine LH ⟨HO2.out.imp (fun u hu=>?_),e1⟩
  have hp:=hu.sub (64*i) m (by omega)
  rw [zsC,← e2] at hp
  rw [e1]
  exact hp
 by_cases hm:64*i+64<bs.length
 ·have hm1:64*(i:Int)+64<(bs.length:Int):=by omega
  have hm2:64*(i:Int)+64≤(bs.length:Int):=by omega
  have hm3:¬ ((bs.length:Int)≤64*(i:Int)+64):=by omega
  have HF1:=HFIN (64*i+64-64*i) (by omega)
  clear HFIN
  go_wp2
  go_ret
  refine ⟨some ⟨r,64*i,none⟩,c1-64*i,?_,HG.out,HF1.out.1⟩
  rw [HF1.out.2];rfl
 ·by_cases hme:64*i+64=bs.length
  ·have hm1:64*(i:Int)+64=(bs.length:Int):=by omega
   have HF1:=HFIN (bs.length-64*i) (by omega)
   clear HFIN hm
   rw [hm1] at hw3
   go_wp2
   go_ret
   refine ⟨some ⟨r,64*i,none⟩,c1-64*i,?_,HG.out,HF1.out.1⟩
   rw [HF1.out.2];rfl
  ·have hm1:¬ (64*(i:Int)+64<(bs.length:Int)):=by omega
   have hm2:¬ (64*(i:Int)+64≤(bs.length:Int)):=by omega
   have hm3:(bs.length:Int)≤64*(i:Int)+64:=by omega
   have hm4:(bs.length:Int)<64*(i:Int)+64:=by omega
   have HF1:=HFIN (bs.length-64*i) (by omega)
   clear HFIN hm hme
   go_wp2
   go_ret
   refine ⟨some ⟨r,64*i,none⟩,c1-64*i,?_,HG.out,HF1.out.1⟩
   rw [HF1.out.2];rfl
theorem zzA (l:List Int) (i:Nat):pageP l i=(l.drop (4*i)).take 4:=by unfold pageP pieceL;rw [Nat.mul_comm]
theorem zsG (session sum:Int) (ad:Addr) (c:Nat) (l:List Int) (w:World) (h:SliceR 1 (.slice (some ad) l.length c) l.length (ints l) w) (hf:fitsB l=true) (i:Nat) (hi:i<pagesN l) :
    Calls Tryz.prog 45 #[.agg #[.int .u64 session,.slice (some ad) l.length c,.int .u32 sum],.int .i64 i] w fun e w'=>e=.returned (.slice (some (ad.add (4*i))) (pageP l i).length (c-4*i))∧Grow w w':=by
 have hg0:=(Keep.refl NoB w).alloc (.cells #[.int .u64 session,.slice (some ad) l.length c,.int .u32 sum] 40)
 have HP:=LH (zdB session sum l (some ad) c _ (h.grow hg0) hf)
 have HG:=LH hg0
 have HZ:=LH (heap_alloc_new w (.cells #[.int .u64 session,.slice (some ad) l.length c,.int .u32 sum] 40))
 obtain ⟨hl1,hl2,-,-⟩:=zN hf
 have hlc:l.length≤c:=by
  obtain ⟨_,_,e,h2,_⟩:=h
  injection e with _ _ e3
  omega
 have hi4:4*i<l.length:=by unfold pagesN at hi;omega
 have hpl:(pageP l i).length=min 4 (l.length-4*i):=by rw [zzA,List.length_take,List.length_drop]
 have HI:=LH hi
 clear h hf hg0
 have hi0:¬ ((i:Int)<0):=by omega
 have hi1:¬ ((pagesN l:Int)≤i):=by omega
 have hi2:0≤(i:Int):=by omega
 have hw2:IntKind.i64.wrap (4*(i:Int))=4*(i:Int):=IntWalk.i64_in _ (by omega)
 have hw3:IntKind.i64.wrap (4*(i:Int)+4)=4*(i:Int)+4:=IntWalk.i64_in _ (by omega)
 have h641:4*(i:Int)≤c:=by omega
 clear hi
 go_enter Tryz.func45,Tryz.ntmps45
 go_wp2_with fail
 refine HP.out.mono ?_
 rintro e w1 ⟨rfl,hg⟩
 replace HG:=LH (HG.out.grow hg)
 replace HZ:=LH (Grow.heap hg HZ.out)
 clear hg HP
 obtain ⟨z0,z1,z2,zf⟩:=zI HZ.out
 by_cases hm:4*i+4<l.length
 ·have hm1:4*(i:Int)+4<(l.length:Int):=by omega
  have hm2:4*(i:Int)+4≤(l.length:Int):=by omega
  have hm3:¬ ((l.length:Int)≤4*(i:Int)+4):=by omega
  have HE:Hid ((pageP l i).length=4*i+4-4*i):=LH (by omega)
  clear hpl
  go_wp2
  go_ret
  exact ⟨by rw [HE.out];rfl,HG.out⟩
 ·by_cases hme:4*i+4=l.length
  ·have hm1:4*(i:Int)+4=(l.length:Int):=by omega
   have HE:Hid ((pageP l i).length=l.length-4*i):=LH (by omega)
   clear hm hpl
   rw [hm1] at hw3
   go_wp2
   go_ret
   exact ⟨by rw [HE.out];rfl,HG.out⟩
  ·have hm1:¬ (4*(i:Int)+4<(l.length:Int)):=by omega
   have hm2:¬ (4*(i:Int)+4≤(l.length:Int)):=by omega
   have hm3:(l.length:Int)≤4*(i:Int)+4:=by omega
   have hm4:(l.length:Int)<4*(i:Int)+4:=by omega
   have HE:Hid ((pageP l i).length=l.length-4*i):=LH (by omega)
   clear hm hme hpl
   go_wp2
   go_ret
   exact ⟨by rw [HE.out];rfl,HG.out⟩
theorem zRK (a:List (List Int)) (k:Nat):(szs a).take k=szs (a.take k):=by simp [szs,List.map_take]
theorem zSK (a:List (List Int)) (k:Nat):offN (szs a) k=(a.take k).flatten.length:=by
 unfold offN
 rw [zRK,zKD]
 simp
theorem zYD (a:List (List Int)):arenaW a.flatten (szs a)=a:=by
 apply List.ext_getElem (by rw [zTA,zi])
 intro k h1 h2
 have e:a.flatten=(a.take k).flatten++(a[k]++(a.drop (k+1)).flatten):=by
  conv=>lhs;rw [← List.take_append_drop k a,List.drop_eq_getElem_cons h2]
  rw [List.flatten_append,List.flatten_cons]
 have h3:(szs a).getD k 0=(a[k].length:Int):=by simp [szs,List.getD_eq_getElem?_getD,h2]
 simp only [arenaW,List.getElem_map,List.getElem_range,rowAt,h3,zSK,Int.toNat_natCast]
 rw [e,List.drop_left,List.take_left]
structure RX where
 s:Int
 a:List (List Int)
 m:Nat
 q:Int
def RX.P (x:RX):Nat:=pagesN (szs x.a)
def RX.Q (x:RX):Nat:=chunksN (szs x.a)
def RX.pgs (x:RX):List (List Int):=(List.range x.P).map (pageP (szs x.a))
structure RX.Ok (x:RX):Prop where
 s0:0≤x.s
 s1:x.s≤18446744073709551615
 m:x.m<4294967296
 a:OkA x.a
 fit:fitsB (szs x.a)=true
theorem RX.pgs_length (x:RX):x.pgs.length=x.P:=by simp [RX.pgs]
theorem RX.pgs_get (x:RX) (i:Nat) (hi:i<x.pgs.length):x.pgs[i]=pageP (szs x.a) i:=by simp [RX.pgs]
theorem zEE (l:List Int):∀ k,((List.range k).map (pageP l)).flatten=l.take (4*k)
 | 0=>by simp
 | k+1=>by
  rw [List.range_succ,List.map_append,List.flatten_append,zEE l k,show 4*(k+1)=4*k+4 by omega,List.take_add]
  simp [zzA]
theorem RX.Ok.pages {x:RX} (h:x.Ok):PagesOk x.pgs (szs x.a):=by
 obtain ⟨h1,h2,-,-⟩:=zN h.fit
 have hP:x.P=((szs x.a).length+3)/4:=rfl
 refine ⟨by rw [x.pgs_length];omega,fun i hi=>?_,fun i hi hn=>?_,h.fit,?_⟩
 ·rw [x.pgs_length] at hi
  rw [x.pgs_get,zzA,List.length_take,List.length_drop]
  omega
 ·rw [x.pgs_length] at hi hn
  rw [x.pgs_get,zzA,List.length_take,List.length_drop]
  omega
 ·rw [RX.pgs,zEE,List.take_of_length_le (by omega)]
theorem RX.Ok.small {x:RX} (h:x.Ok):1≤x.P∧x.P≤4∧1≤x.Q∧x.Q≤512∧x.a.flatten.length≤4096∧((x.a.flatten.length:Int)=(szs x.a).sum)∧x.Q=(x.a.flatten.length+7)/8:=by
 obtain ⟨h1,h2,h3,h4⟩:=zN h.fit
 have hs:=zKD x.a
 have hh:1≤(szs x.a).headD 0:=by
  have:=h.fit
  unfold fitsB at this
  simp only [decide_eq_true_eq] at this
  exact this.2.2.1
 have hm:(szs x.a).headD 0≤(szs x.a).sum:=by
  cases hz:szs x.a with
  | nil=>rw [hz] at h1;simp at h1
  | cons y r =>
   rw [hz] at h3
   exact zcB h3 y (List.mem_cons_self ..)
 have hP:x.P=((szs x.a).length+3)/4:=rfl
 have hQ:x.Q=((szs x.a).sum.toNat+7)/8:=rfl
 omega
inductive RSt where
 | idle
 | hear (hs:Nat→Bool)
 | part (kb:List Int)
 | ready
 | fail (e:Nat)
def allH (x:RX) (hs:Nat→Bool):Bool:=(List.range x.P).all hs
def hearS (x:RX) (hs:Nat→Bool):RSt:=if allH x hs=true then (if x.q<8*(szs x.a).sum then .fail 31 else .part (makeB x.Q)) else .hear hs
def offS (x:RX) (s:RSt) (j:Nat):RSt :=
 match s with
 | .idle=>hearS x (fun i=>i==j)
 | .hear hs=>if hs j=true then .hear hs else hearS x (fun i=>i==j||hs i)
 | s=>s
def failK:RSt→Option Int
 | .fail _=>some 5
 | _=>none
def offK (x:RX) (s:RSt) (j:Nat):Option Int :=
 match s with
 | .idle=>failK (offS x .idle j)
 | .hear hs=>failK (offS x (.hear hs) j)
 | _=>none
def endS (x:RX):RSt:=if x.m=sumP x.s x.a then (if checkP x.a=0 then .ready else .fail (checkP x.a).toNat) else .fail 12
def datS (x:RX) (s:RSt) (i:Nat):RSt :=
 match s with
 | .part kb=>if getB kb i=true then .part kb else if popB (setB kb i)<x.Q then .part (setB kb i) else endS x
 | s=>s
def datK (x:RX) (s:RSt) (i:Nat):Option Int :=
 match s with
 | .idle=>some 3
 | .part kb=>failK (datS x (.part kb) i)
 | _=>none
def RvOut (k:Option Int) (w0:World) (v:Value) (w:World):Prop :=
 match k with
 | none=>v=.slice none 0 0
 | some k=>∃ b s i m,v=.slice (some ⟨b,0,none⟩) 1 1∧OneG w b k s i 0 m∧w0.heap.size≤b
structure Rv0 (x:RX) (g sn:Nat) (rc:RC) (k:KS) (Gk F:Nat→Prop) (w:World):Prop where
 cell:RCell g rc w
 st:rc.st=sn
 quota:rc.quota=x.q
 kat:KAt sn k Gk w
 gk:¬ KF sn k g
 gg:¬ Gk g
 fg:F g
 fk:∀ j,KF sn k j→F j
 fG:∀ j,Gk j→F j
 n:k.n=0
 f0:k.f=fun _=>none
 lo:k.lo.n=0
 part:rc.part=none
 err:rc.err=0
def parD (x:RX) (kb:List Int):Par:=⟨x.s,szs x.a,x.m,wordsK x.a.flatten kb,kb⟩
structure Rv1 (x:RX) (g sn:Nat) (rc:RC) (b:Nat) (p:PP) (kb:List Int) (G:Nat→Prop) (k:KS) (Gk F:Nat→Prop) (w:World):Prop where
 at_:RcvAt g rc b p (parD x kb) G k Gk w
 st:rc.st=sn
 quota:rc.quota=x.q
 s:rc.session=x.s
 m:rc.sum=x.m
 err:rc.err=0
 ok:BitsOk kb x.Q
 lo:k.lo.n=1+popB kb
 n:k.n=popB kb
 f1:∀ j,RF g sn b p k j→F j
 f2:∀ j,G j→F j
 f3:∀ j,Gk j→F j
def RvI (x:RX) (g st:Nat) (s:RSt) (F:Nat→Prop) (w:World):Prop :=
 match s with
 | .idle=>∃ rc k Gk,Rv0 x g st rc k Gk F w∧rc.phase=0
 | .hear hs=>∃ rc k Gk G,Rv0 x g st rc k Gk F w∧rc.phase=1∧rc.of=(x.P:Int)∧rc.session=x.s∧rc.sum=x.m∧Hear rc x.pgs G w∧¬ G g∧(∀ j,G j→F j∧¬ KF st k j)∧(∀ j,j<x.P→rc.h j=hs j)∧allH x hs=false
 | .part kb=>∃ rc b p G k Gk,Rv1 x g st rc b p kb G k Gk F w∧rc.phase=1∧popB kb<x.Q
 | .ready=>∃ rc b p kb G k Gk,Rv1 x g st rc b p kb G k Gk F w∧rc.phase=2∧(∀ i,i<x.Q→getB kb i=true)∧checkP x.a=0
 | .fail e=>∃ rc:RC,RCell g (rc.fail e) w∧rc.st=st∧F g∧e≠0∧(e=31→x.q<8*(szs x.a).sum∧∃ k Gk,KAt st k Gk w∧(k.f=fun _=>none)∧(∀ j,KF st k j→F j)∧∀ j,Gk j→F j)
theorem Rv0.small {x:RX} {g st:Nat} {rc:RC} {k:KS} {Gk F:Nat→Prop} {w:World} (h:Rv0 x g st rc k Gk F w):g<w.heap.size∧(∀ j,KF st k j→j<w.heap.size)∧∀ j,Gk j→j<w.heap.size:=⟨h.cell.lt,h.kat.small,h.kat.ro.1⟩
theorem Rv0.keep {x:RX} {g st:Nat} {rc:RC} {k:KS} {Gk F S:Nat→Prop} {w w':World} (h:Rv0 x g st rc k Gk F w) (hk:Keep S w w') (hS:∀ j,F j→¬ S j):Rv0 x g st rc k Gk F w' :=
 ⟨h.cell.keep hk (hS g h.fg),h.st,h.quota,h.kat.keep hk (fun j hj=>hS j (h.fk j hj)) (fun j hj=>hS j (h.fG j hj)),h.gk,h.gg,h.fg,h.fk,h.fG,h.n,h.f0,h.lo,h.part,h.err⟩
theorem Rv1.keep {x:RX} {g st:Nat} {rc:RC} {b:Nat} {p:PP} {kb:List Int} {G:Nat→Prop} {k:KS} {Gk F S:Nat→Prop} {w w':World} (h:Rv1 x g st rc b p kb G k Gk F w) (hk:Keep S w w') (hS:∀ j,F j→¬ S j):Rv1 x g st rc b p kb G k Gk F w' :=
 ⟨h.at_.keep hk (fun j hj=>hS j (h.f1 j (by rw [← h.st];exact hj))) (fun j hj=>hS j (h.f2 j hj)) (fun j hj=>hS j (h.f3 j hj)),h.st,h.quota,h.s,h.m,h.err,h.ok,h.lo,h.n,h.f1,h.f2,h.f3⟩
theorem RvI.keep {x:RX} {g st:Nat} {s:RSt} {F S:Nat→Prop} {w w':World} (h:RvI x g st s F w) (hk:Keep S w w') (hS:∀ j,F j→¬ S j):RvI x g st s F w':=by
 cases s with
 | idle =>
  obtain ⟨rc,k,Gk,h0,hp⟩:=h
  exact ⟨rc,k,Gk,h0.keep hk hS,hp⟩
 | hear hs =>
  obtain ⟨rc,k,Gk,G,h0,h1,h2,h3,h4,h5,h6,h7,h8,h9⟩:=h
  exact ⟨rc,k,Gk,G,h0.keep hk hS,h1,h2,h3,h4,h5.keep hk (fun j hj=>hS j (h7 j hj).1),h6,h7,h8,h9⟩
 | part kb =>
  obtain ⟨rc,b,p,G,k,Gk,h0,h1,h2⟩:=h
  exact ⟨rc,b,p,G,k,Gk,h0.keep hk hS,h1,h2⟩
 | ready =>
  obtain ⟨rc,b,p,kb,G,k,Gk,h0,h1,h2⟩:=h
  exact ⟨rc,b,p,kb,G,k,Gk,h0.keep hk hS,h1,h2⟩
 | fail e =>
  obtain ⟨rc,h0,h1,h2,h3,h4⟩:=h
  exact ⟨rc,h0.keep hk (hS g h2),h1,h2,h3,fun e9=>by
   obtain ⟨q,k,Gk,k1,k2,k3,k4⟩:=h4 e9
   exact ⟨q,k,Gk,k1.keep hk (fun j hj=>hS j (k3 j hj)) (fun j hj=>hS j (k4 j hj)),k2,k3,k4⟩⟩
theorem RvI.grow {x:RX} {g st:Nat} {s:RSt} {F:Nat→Prop} {w w':World} (h:RvI x g st s F w) (hk:Grow w w'):RvI x g st s F w':=h.keep hk (fun _ _ h=>h)
def RvStep (x:RX) (g st:Nat) (s:RSt) (kd:Option Int) (F:Nat→Prop) (w:World) (v:Value) (w':World):Prop :=
 RvOut kd w v w'∧∃ F',RvI x g st s F' w'∧Keep F w w'∧(∀ j,F' j→F j∨w.heap.size≤j)∧∀ j,F' j→j<w'.heap.size
theorem RvStep.same {x:RX} {g st:Nat} {s:RSt} {F:Nat→Prop} {w w':World} (h:RvI x g st s F w) (hF:∀ j,F j→j<w.heap.size) (hg:Grow w w'):RvStep x g st s none F w (.slice none 0 0) w' :=
 ⟨rfl,F,h.grow hg,hg.mono (fun _ h=>h.elim),fun j hj=>.inl hj,fun j hj=>Nat.lt_of_lt_of_le (hF j hj) hg.size⟩
theorem RC.setH_h (d:RC) (i:Nat) (hi:i<4) (j:Nat) (hj:j<4):(d.setH i).h j=(if j=i then true else d.h j):=by
 have:=(d.set_h i hi ⟨none,0,0⟩ j hj).1
 rwa [RC.setZ_h] at this
theorem zpE {x:RX} (hx:x.Ok) {rc:RC} {hs:Nat→Bool} {i:Nat} (hi:i<x.P) (hh:∀ j,j<x.P→rc.h j=hs j):((List.range x.P).map (rc.setH i).h).contains false = ! allH x (fun j=>j==i||hs j):=by
 have h4:=hx.small.2.1
 rw [Bool.eq_iff_iff]
 simp only [List.contains_iff_mem,List.mem_map,List.mem_range,Bool.not_eq_true',allH,List.all_eq_false]
 constructor
 ·rintro ⟨j,hj,e⟩
  rw [RC.setH_h _ _ (by omega) _ (by omega)] at e
  refine ⟨j,hj,?_⟩
  split at e
  ·cases e
  ·rename_i hne
   rw [hh j hj] at e
   simp [hne,e]
 ·rintro ⟨j,hj,e⟩
  refine ⟨j,hj,?_⟩
  rw [RC.setH_h _ _ (by omega) _ (by omega)]
  simp at e
  rw [if_neg e.1,hh j hj]
  exact e.2
end Go.Proofs.YtfkcpaahdlkcdaaGreat

import Derived.Test.YtfkcpaahdlkcdaaGreatRRecvReads05
import Derived.Test.YtfkcpaahdlkcdaaGreatRRecvReads06
set_option linter.unusedSimpArgs false
set_option linter.unusedVariables false
set_option maxRecDepth 100000
set_option maxHeartbeats 16000000
namespace Go.Proofs.YtfkcpaahdlkcdaaGreat
open Go.RowKit
structure ObIn (o:Ob):Prop where
 ok:ObOk o
 at0:0≤o.at_
 cases:o=ob0∨(o.kind=1∧o.size=0∧o.count=0∧o.at_+o.data+o.ptrs≤100000) ∨
  (o.kind=2∧o.data=0∧o.ptrs=0∧((o.size=2∧o.at_+(o.count+7)/8≤100000)∨(o.size=5∧o.at_+o.count≤100000)∨(o.size=6∧o.at_+o.count≤100000)))
structure PtSh (p:Pt):Prop where
 z:p.kind=0→p=pt0
 s:p.kind=1→p.size=0∧p.count=0
 l:p.kind=2→p.data=0∧p.ptrs=0
theorem zpE (x:Int):PtSh (ptrDec x).1:=by
 unfold ptrDec
 split
 ·constructor <;> simp [pt0]
 split
 ·constructor <;> simp
 split
 ·constructor <;> simp
 split
 ·constructor <;> simp
 ·constructor <;> simp [pt0]
theorem zlF (wd:Int→Int→Int×Int) (seg at_:Int):PtSh (ptrAt wd seg at_).1:=by
 unfold ptrAt
 split
 ·exact zpE _
 ·constructor <;> simp [pt0]
theorem zjA:ObIn ob0:=⟨zAJ,by simp [ob0],.inl rfl⟩
theorem zpC {sz:List Int} (hs:∀ x∈sz,0≤x∧x≤100000) {p:Pt} (hp:PtOk p) (hsh:PtSh p) (hn:isNear p=true) (seg at_:Int):ObIn (foundP sz p seg at_).1:=by
 unfold foundP
 split
 ·rename_i he
  split
  ·rename_i hw
   unfold withinB at hw
   simp only [decide_eq_true_eq] at hw
   obtain ⟨h1,h2,h3,h4,h5⟩:=hw
   have h6:sz.getD seg.toNat 0≤100000:=by
    have hk:seg.toNat<sz.length:=by omega
    rw [List.getD_eq_getElem?_getD,List.getElem?_eq_getElem hk]
    exact (hs _ (List.getElem_mem hk)).2
   refine ⟨zyA hp seg at_,h3,.inr ?_⟩
   have hd:=hp.d
   have hq:=hp.q
   have hc:=hp.c
   have h7:at_+(ptrWords (obP (obOf p seg at_))).1≤100000:=by omega
   clear h5 h6
   simp only [isNear,Bool.or_eq_true,beq_iff_eq] at hn
   rcases hn with hk | hk
   ·left
    have:=hsh.s hk
    have hpw:(ptrWords (obP (obOf p seg at_))).1=p.data+p.ptrs:=by simp [ptrWords,obP,obOf,hk]
    exact ⟨hk,this.1,this.2,by simp only [obOf];omega⟩
   ·right
    have:=hsh.l hk
    refine ⟨hk,this.1,this.2,?_⟩
    by_cases s2:p.size=2
    ·have hpw:(ptrWords (obP (obOf p seg at_))).1=(p.count+7)/8:=by simp [ptrWords,obP,obOf,hk,s2]
     exact .inl ⟨s2,by simp only [obOf];omega⟩
    by_cases s5:p.size=5
    ·have hpw:(ptrWords (obP (obOf p seg at_))).1=p.count:=by simp [ptrWords,obP,obOf,hk,s5]
     exact .inr (.inl ⟨s5,by simp only [obOf];omega⟩)
    by_cases s6:p.size=6
    ·have hpw:(ptrWords (obP (obOf p seg at_))).1=p.count:=by simp [ptrWords,obP,obOf,hk,s6]
     exact .inr (.inr ⟨s6,by simp only [obOf];omega⟩)
    ·simp [ptrWords,obP,obOf,hk,s2,s5,s6] at he
  ·exact zjA
 ·exact zjA
theorem zd {sz : List Int} {wd : Int → Int → Int × Int} (h : SouOk sz wd) (seg at_ : Int) : ObIn (followP sz wd seg at_).1 := by
 unfold followP
 split
 ·split
  ·rename_i hn
   exact zpC h.sz (zVB h seg at_) (zlF wd seg at_) hn _ _
  ·split
   ·unfold twiceP
    split
    ·split
     ·split
      ·split
       ·split
        ·rename_i hc
         exact zpC h.sz (zeB _ (h.val _ _).1) (zpE _) hc.2.2.1 _ _
        ·exact zjA
       ·exact zjA
      ·exact zjA
     ·exact zjA
    ·exact zjA
   ·unfold landedP
    split
    ·split
     ·rename_i hn
      exact zpC h.sz (zVB h _ _) (zlF wd _ _) hn _ _
     ·exact zjA
    ·exact zjA
 ·exact zjA
theorem za {o:Ob} (h:ObIn o):0≤obWords o∧obWords o≤200000:=by
 have hd:=h.ok.d
 have hq:=h.ok.q
 have hc:=h.ok.c
 have ha:=h.at0
 rcases h.cases with rfl | ⟨hk,hs,h2,h3⟩ | ⟨hk,h1,h2,h3⟩
 ·simp [obWords,ptrWords,obP,ob0]
 ·simp [obWords,ptrWords,obP,hk];omega
 ·rcases h3 with ⟨s,h3⟩ | ⟨s,h3⟩ | ⟨s,h3⟩
  ·simp [obWords,ptrWords,obP,hk,s];omega
  ·simp [obWords,ptrWords,obP,hk,s];omega
  ·simp [obWords,ptrWords,obP,hk,s];omega
def kidsK (f:Int→Int→Tr×Int×Int) (at0 paid0:Int):Nat→List Tr×Int×Int
 | 0=>([],0,paid0)
 | k + 1 => if (kidsK f at0 paid0 k).2.1 = 0 then
     (if (f (at0+k) (kidsK f at0 paid0 k).2.2).2.1=0 then ((kidsK f at0 paid0 k).1++[(f (at0+k) (kidsK f at0 paid0 k).2.2).1],0,(f (at0+k) (kidsK f at0 paid0 k).2.2).2.2)
      else ([],(f (at0+k) (kidsK f at0 paid0 k).2.2).2.1,(f (at0+k) (kidsK f at0 paid0 k).2.2).2.2))
     else kidsK f at0 paid0 k
theorem zqC (f:Int→Int→Tr×Int×Int) (at0 paid0:Int) {k n:Nat} (h:(kidsK f at0 paid0 k).2.1≠0) (hn:k≤n):kidsK f at0 paid0 n=kidsK f at0 paid0 k:=by
 induction n with
 | zero => obtain rfl : k = 0 := by omega
           rfl
 | succ n ih =>
  by_cases hk:k≤n
  ·have:=ih hk
   simp only [kidsK]
   rw [this,if_neg h]
  ·obtain rfl:k=n+1:=by omega
   rfl
def nodeT (wd:Int→Int→Int×Int) (f:Int→Int→Int→Tr×Int×Int) (o:Ob) (p:Int):Tr×Int×Int :=
 if (kidsK (f o.seg) (if o.size=6 then o.at_ else o.at_+o.data) p (if o.size=6 then o.count else o.ptrs).toNat).2.1=0 then
  (.mk o.kind o.size (wordsP wd o.seg o.at_ (if o.size=5 then o.count else o.data).toNat) (if o.size=2 then bytesP wd o.seg o.at_ o.count.toNat else [])
   (kidsK (f o.seg) (if o.size=6 then o.at_ else o.at_+o.data) p (if o.size=6 then o.count else o.ptrs).toNat).1,0,(kidsK (f o.seg) (if o.size=6 then o.at_ else o.at_+o.data) p (if o.size=6 then o.count else o.ptrs).toNat).2.2)
 else (tr0,(kidsK (f o.seg) (if o.size=6 then o.at_ else o.at_+o.data) p (if o.size=6 then o.count else o.ptrs).toNat).2.1,(kidsK (f o.seg) (if o.size=6 then o.at_ else o.at_+o.data) p (if o.size=6 then o.count else o.ptrs).toNat).2.2)
def nodeS (sz:List Int) (wd:Int→Int→Int×Int) (last:Bool) (f:Int→Int→Int→Tr×Int×Int) (seg at_ paid:Int):Tr×Int×Int :=
 if (followP sz wd seg at_).2=0 then
  if (followP sz wd seg at_).1.kind≠0∧last=true then (tr0,21,paid+(1+obWords (followP sz wd seg at_).1))
  else if 8192<paid+(1+obWords (followP sz wd seg at_).1) then (tr0,22,paid+(1+obWords (followP sz wd seg at_).1))
  else nodeT wd f (followP sz wd seg at_).1 (paid+(1+obWords (followP sz wd seg at_).1))
 else (tr0,(followP sz wd seg at_).2,paid)
def nodeP (sz:List Int) (wd:Int→Int→Int×Int):Nat→Int→Int→Int→Tr×Int×Int
 | 0=>nodeS sz wd true (fun _ _ _=>(tr0,0,0))
 | l+1=>nodeS sz wd false (nodeP sz wd l)
structure NS (W0 w:World) (D N O:Nat) (sv:Value) (paid:Int) (a0 a1 a2 a3 a4:Value) (o:Ob) (c:World):Prop where
 dec:Dec D sv paid c
 nod:c.heap[N]? = some (.cells #[a0,a1,a2,a3,a4] 114 (0,0))
 obj:c.heap[O]? = some (.cells o 257 (0,0))
 keep:Keep (fun k=>k=D) w c
 base:Grow W0 c
 lo:W0.heap.size≤D∧D<w.heap.size∧w.heap.size≤N∧N<O
namespace NS
variable {W0 w:World} {D N O:Nat} {sv:Value} {paid:Int} {a0 a1 a2 a3 a4:Value} {o:Ob} {c c':World}
theorem grow (h:NS W0 w D N O sv paid a0 a1 a2 a3 a4 o c) (hg:Grow c c'):NS W0 w D N O sv paid a0 a1 a2 a3 a4 o c' :=
 ⟨h.dec.grow hg,hg.heap h.nod,hg.heap h.obj,h.keep.grow hg,h.base.grow hg,h.lo⟩
theorem drew (h:NS W0 w D N O sv paid a0 a1 a2 a3 a4 o c):NS W0 w D N O sv paid a0 a1 a2 a3 a4 o c.drew:=h.grow (Keep.refl NoB c).drew
theorem call (h:NS W0 w D N O sv paid a0 a1 a2 a3 a4 o c) {paid':Int} (hd:Dec D sv paid' c') (hk:Keep (fun k=>k=D) c c'):NS W0 w D N O sv paid' a0 a1 a2 a3 a4 o c':=by
 obtain ⟨l1,l2,l3,l4⟩:=h.lo
 have b1:N<c.heap.size:=(gE h.nod).1
 have b2:O<c.heap.size:=(gE h.obj).1
 exact ⟨hd,(hk.block _ b1 (by omega)).trans h.nod,(hk.block _ b2 (by omega)).trans h.obj,h.keep.trans hk (fun i hi=>.inl hi),
  ((h.base.mono (fun _ h=>h.elim)).trans hk (fun i hi=>.inl hi):Keep (fun k=>k=D) W0 c').new (fun i hi=>by omega),h.lo⟩
theorem pay (h:NS W0 w D N O sv paid a0 a1 a2 a3 a4 o c) (p:Int):NS W0 w D N O sv p a0 a1 a2 a3 a4 o (c.setCell ⟨D,1,none⟩ (.int .i64 p)):=by
 refine h.call ?_ ((Keep.refl (fun k=>k=D) c).setCell (.inl rfl) _)
 have:=h.dec
 unfold Dec at this ⊢
 simp only [World.setCell,Array.getElem?_modify]
 simp [this]
theorem put (h:NS W0 w D N O sv paid a0 a1 a2 a3 a4 o c) (i:Nat) (v b0 b1 b2 b3 b4:Value) (hi:i<5) (hs:(#[a0,a1,a2,a3,a4]:Array Value).setIfInBounds i v=#[b0,b1,b2,b3,b4]):NS W0 w D N O sv paid b0 b1 b2 b3 b4 o (c.setCell ⟨N,i,none⟩ v):=by
 obtain ⟨l1,l2,l3,l4⟩:=h.lo
 refine ⟨(zt (p:=⟨N,i,none⟩) v (by simp;omega)).trans h.dec,?_,(zt (p:=⟨N,i,none⟩) v (by simp;omega)).trans h.obj,h.keep.setCell (p:=⟨N,i,none⟩) (.inr l3) _,h.base.setCell (p:=⟨N,i,none⟩) (.inr (by simp;omega)) _,h.lo⟩
 rw [← hs]
 simp only [World.setCell,Array.getElem?_modify]
 simp [h.nod]
theorem all (h:NS W0 w D N O sv paid a0 a1 a2 a3 a4 o c) (b0 b1 b2 b3 b4:Value):NS W0 w D N O sv paid b0 b1 b2 b3 b4 o (((((c.setCell ⟨N,0,none⟩ b0).setCell ⟨N,1,none⟩ b1).setCell ⟨N,2,none⟩ b2).setCell ⟨N,3,none⟩ b3).setCell ⟨N,4,none⟩ b4) :=
 ((((h.put 0 b0 _ _ _ _ _ (by omega) rfl).put 1 b1 _ _ _ _ _ (by omega) rfl).put 2 b2 _ _ _ _ _ (by omega) rfl).put 3 b3 _ _ _ _ _ (by omega) rfl).put 4 b4 _ _ _ _ _ (by omega) rfl
end NS
end Go.Proofs.YtfkcpaahdlkcdaaGreat
namespace Go.Proofs.YtfkcpaahdlkcdaaGreat
open Go.RowKit
def NPost (r:Tr×Int×Int) (D:Nat) (sv:Value) (w:World) (e:Ending) (w':World):Prop :=
 ∃ vw vb vk,e=.returned (.tuple #[.agg #[r.1.kind,r.1.size,vw,vb,vk],.int .u16 r.2.1])∧Dec D sv r.2.2 w'∧Keep (fun k=>k=D) w w' ∧
  Foot (fun u=>TrR u r.1 vw vb vk) w' (fun k=>w.heap.size≤k∧k<w'.heap.size)∧TrB r.1
def NodeAt (sz:List Int) (wd:Int→Int→Int×Int) (l:Nat):Prop :=
 ∀ (sv:Value) (W0:World) (D:Nat) (paid seg at_:Int) (w:World),Sou sv sz wd W0→Dec D sv paid w→W0.heap.size≤D→Grow W0 w→0≤paid→paid≤8192 →
  Calls Tryz.prog 244 #[.pointer (some ⟨D,0,none⟩),.int .i64 seg,.int .i64 at_,.int .i64 l] w (NPost (nodeP sz wd l seg at_ paid) D sv w)
theorem tr0_b:TrB tr0:=.mk (by simp) (by simp) (by simp) (fun t h=>by cases h)
theorem zk {D N O:Nat} {sv:Value} {paid:Int} {W0 w c:World} {o:Ob} {r:Tr×Int×Int} {er:Int} (h:NS W0 w D N O sv paid (.int .i64 0) (.int .i64 0) (.slice none 0 0) (.slice none 0 0) (.slice none 0 0) o c) (hr:r=(tr0,er,paid)) :
    NPost r D sv w (.returned (.tuple #[.agg qA,.int .u16 er])) c:=by
 subst hr
 exact ⟨_,_,_,rfl,h.dec,h.keep,⟨fun k hk=>hk.2,fun W' _=>TrR.nil W' 0 0⟩,tr0_b⟩
theorem zWB {sv:Value} {W0:World} {D:Nat} {paid:Int} {w w1:World} {o:Ob} (hD:Dec D sv paid w) (hD0:W0.heap.size≤D) (hg:Grow W0 w) (hg1:Grow (w.alloc (.cells qA 114)) w1) :
    NS W0 w D w.heap.size w1.heap.size sv paid (.int .i64 0) (.int .i64 0) (.slice none 0 0) (.slice none 0 0) (.slice none 0 0) o (w1.alloc (.cells o 257)):=by
 have g1:=(Keep.refl NoB w).alloc (.cells qA 114)
 have hn:=Grow.heap hg1 (heap_alloc_new w (.cells qA 114))
 have hsz:=hg1.size
 have g2:=(Keep.refl NoB w1).alloc (.cells o 257)
 have hlt:=hD.lt
 have g3:=(g1.grow hg1).grow g2
 simp at hsz
 exact ⟨((hD.grow g1).grow hg1).grow g2,Grow.heap g2 hn,heap_alloc_new w1 _,g3.mono (fun _ h=>h.elim),hg.grow g3,hD0,hlt,Nat.le_refl _,by omega⟩
theorem zPB {f:Int→Int→Tr×Int×Int} (hf:∀ a p,0≤p→p≤8192→(f a p).2.1=0→0≤(f a p).2.2∧(f a p).2.2≤8192) {at0 p0:Int} (h0:0≤p0) (h1:p0≤8192):∀ k,(kidsK f at0 p0 k).2.1=0→0≤(kidsK f at0 p0 k).2.2∧(kidsK f at0 p0 k).2.2≤8192
 | 0,_=>⟨h0,h1⟩
 | k + 1, h => by
  have ih:=zPB (at0:=at0) hf h0 h1 k
  simp only [kidsK] at h ⊢
  by_cases hk:(kidsK f at0 p0 k).2.1=0
  ·rw [if_pos hk] at h ⊢
   obtain ⟨i0,i1⟩:=ih hk
   by_cases hr:(f (at0+k) (kidsK f at0 p0 k).2.2).2.1=0
   ·rw [if_pos hr]
    exact hf _ _ i0 i1 hr
   ·rw [if_neg hr] at h
    exact absurd h hr
  ·rw [if_neg hk] at h
   exact absurd h hk
theorem zyD {sz:List Int} {wd:Int→Int→Int×Int} (ho:SouOk sz wd) (last:Bool) {f:Int→Int→Int→Tr×Int×Int} (hf:∀ s a p,0≤p→p≤8192→(f s a p).2.1=0→0≤(f s a p).2.2∧(f s a p).2.2≤8192) (seg at_ p:Int) (h0:0≤p) (h1:p≤8192)
    (h:(nodeS sz wd last f seg at_ p).2.1=0):0≤(nodeS sz wd last f seg at_ p).2.2∧(nodeS sz wd last f seg at_ p).2.2≤8192:=by
 have how:=(za (zd ho seg at_)).1
 unfold nodeS at h ⊢
 by_cases c1:(followP sz wd seg at_).2=0
 ·rw [if_pos c1] at h ⊢
  by_cases c2:(followP sz wd seg at_).1.kind≠0∧last=true
  ·rw [if_pos c2] at h
   simp at h
  ·rw [if_neg c2] at h ⊢
   by_cases c3:8192<p+(1+obWords (followP sz wd seg at_).1)
   ·rw [if_pos c3] at h
    simp at h
   ·rw [if_neg c3] at h ⊢
    unfold nodeT at h ⊢
    have hk:=zPB (hf (followP sz wd seg at_).1.seg) (at0:=if (followP sz wd seg at_).1.size=6 then (followP sz wd seg at_).1.at_ else (followP sz wd seg at_).1.at_+(followP sz wd seg at_).1.data) (p0:=p+(1+obWords (followP sz wd seg at_).1)) (by omega) (by omega) (if (followP sz wd seg at_).1.size=6 then (followP sz wd seg at_).1.count else (followP sz wd seg at_).1.ptrs).toNat
    generalize kidsK _ _ _ _=q at h hk ⊢
    by_cases c4:q.2.1=0
    ·rw [if_pos c4]
     exact hk c4
    ·rw [if_neg c4] at h
     exact absurd h c4
 ·rw [if_neg c1] at h
  exact absurd h c1
theorem zjB {sz:List Int} {wd:Int→Int→Int×Int} (ho:SouOk sz wd):∀ (l:Nat) (seg at_ p:Int),0≤p→p≤8192→(nodeP sz wd l seg at_ p).2.1=0→0≤(nodeP sz wd l seg at_ p).2.2∧(nodeP sz wd l seg at_ p).2.2≤8192
 | 0,seg,at_,p,h0,h1,h=>zyD ho true (fun _ _ _ _ _ _=>by simp) seg at_ p h0 h1 h
 | l+1,seg,at_,p,h0,h1,h=>zyD ho false (zjB ho l) seg at_ p h0 h1 h
def FO (O:Nat) (v:Value) (c:World):Nat→Prop:=fun j=>O<j∧j<c.heap.size∧v.ownBlock≠some j
structure KL (W0 w:World) (D N O:Nat) (sv:Value) (o:Ob) (f:Int→Int→Tr×Int×Int) (at0 p0:Int) (ws bs:List Int) (vw vb:Value) (k:Nat) (v:Value) (rows:List (Tr×Value×Value×Value)) (c:World):Prop where
 ns:NS W0 w D N O sv (kidsK f at0 p0 k).2.2 (.int .i64 o.kind) (.int .i64 o.size) vw vb v o c
 ok:(kidsK f at0 p0 k).2.1=0
 kids:rows.map (·.1)=(kidsK f at0 p0 k).1
 len:rows.length=k
 own:c.ownsRow (O+1) 114 5 v k (kcs rows)
 foot:Foot (fun u=>SliceR 1 vw ws.length (u64s ws) u∧SliceR 1 vb bs.length (u8s bs) u∧∀ r,r∈rows→TrR u r.1 r.2.1 r.2.2.1 r.2.2.2) c (FO O v c)
 trb:∀ r,r∈rows→TrB r.1
theorem KL.begin {W0 w:World} {D N O:Nat} {sv:Value} {o:Ob} {f:Int→Int→Tr×Int×Int} {at0 p0:Int} {ws bs:List Int} {vw vb:Value} {c:World}
    (hn:NS W0 w D N O sv p0 (.int .i64 o.kind) (.int .i64 o.size) vw vb (.slice none 0 0) o c) (hw:c.ownsRow (O+1) 22 1 vw ws.length (u64s ws)) (hb:c.ownsRow (O+1) 5 1 vb bs.length (u8s bs)) :
    KL W0 w D N O sv o f at0 p0 ws bs vw vb 0 (.slice none 0 0) [] c:=by
 refine ⟨hn,rfl,rfl,rfl,World.ownsRow_nil _ _ _ _,?_,fun r h=>by cases h⟩
 have f1:=Foot.of_own hw
 have f2:=Foot.of_own hb
 refine ((f1.and f2).imp (fun u h=>⟨h.1,h.2,fun r hr=>by cases hr⟩)).mono (fun j hj=>hj.2.1) (fun j hj=>?_)
 rcases hj with hj | hj
 ·exact ⟨(hw.lt j hj).1,(hw.lt j hj).2,by simp [Value.ownBlock]⟩
 ·exact ⟨(hb.lt j hj).1,(hb.lt j hj).2,by simp [Value.ownBlock]⟩
structure KM (W0 w:World) (D N O:Nat) (sv:Value) (o:Ob) (paid:Int) (ws bs:List Int) (vw vb:Value) (k:Nat) (v:Value) (rows:List (Tr×Value×Value×Value)) (kid:Tr×Value×Value×Value) (c:World):Prop where
 ns:NS W0 w D N O sv paid (.int .i64 o.kind) (.int .i64 o.size) vw vb v o c
 own:c.ownsRow (O+1) 114 5 v k (kcs rows)
 foot:Foot (fun u=>SliceR 1 vw ws.length (u64s ws) u∧SliceR 1 vb bs.length (u8s bs) u∧∀ r,r∈rows++[kid]→TrR u r.1 r.2.1 r.2.2.1 r.2.2.2) c (FO O v c)
theorem KM.grow {W0 w:World} {D N O:Nat} {sv:Value} {o:Ob} {paid:Int} {ws bs:List Int} {vw vb:Value} {k:Nat} {v:Value} {rows:List (Tr×Value×Value×Value)} {kid:Tr×Value×Value×Value} {c c':World}
    (h:KM W0 w D N O sv o paid ws bs vw vb k v rows kid c) (hg:Grow c c'):KM W0 w D N O sv o paid ws bs vw vb k v rows kid c' :=
 ⟨h.ns.grow hg,zF h.own hg (fun _ _ h=>h),(h.foot.grow hg).mono (fun j hj=>hj.2.1) (fun j hj=>⟨hj.1,Nat.lt_of_lt_of_le hj.2.1 hg.size,hj.2.2⟩)⟩
theorem KL.called {W0 w:World} {D N O:Nat} {sv:Value} {o:Ob} {f:Int→Int→Tr×Int×Int} {at0 p0:Int} {ws bs:List Int} {vw vb:Value} {k:Nat} {v:Value} {rows:List (Tr×Value×Value×Value)} {c c':World}
    (h:KL W0 w D N O sv o f at0 p0 ws bs vw vb k v rows c) {paid:Int} {t:Tr} {xw xb xk:Value} (hd:Dec D sv paid c') (hk:Keep (fun k=>k=D) c c') (hf:Foot (fun u=>TrR u t xw xb xk) c' (fun j=>c.heap.size≤j∧j<c'.heap.size)) :
    KM W0 w D N O sv o paid ws bs vw vb k v rows (t,xw,xb,xk) c':=by
 obtain ⟨l1,l2,l3,l4⟩:=h.ns.lo
 have bO:O<c.heap.size:=(gE h.ns.obj).1
 refine ⟨h.ns.call hd hk,zF h.own hk (fun j hj e=>by have:=(h.own.lt j hj).1;omega),?_⟩
 have f1:=h.foot.keep hk (fun j hj e=>by have:=hj.1;omega)
 refine ((f1.and hf).imp (fun u hu=>⟨hu.1.1,hu.1.2.1,fun r hr=>by
  rcases List.mem_append.1 hr with e | e
  ·exact hu.1.2.2 r e
  ·rw [List.mem_singleton.1 e];exact hu.2⟩)).mono (fun j hj=>hj.2.1) (fun j hj=>?_)
 rcases hj with hj | hj
 ·exact ⟨hj.1,Nat.lt_of_lt_of_le hj.2.1 hk.size,hj.2.2⟩
 ·exact ⟨by omega,hj.2,fun e=>by have:=(h.own.lt j e).2;omega⟩
theorem KM.appended {W0 w:World} {D N O:Nat} {sv:Value} {o:Ob} {f:Int→Int→Tr×Int×Int} {at0 p0:Int} {ws bs:List Int} {vw vb:Value} {k:Nat} {v v4:Value} {rows:List (Tr×Value×Value×Value)} {kid:Tr×Value×Value×Value} {c c4:World} {q:Prop}
    (h:KM W0 w D N O sv o (kidsK f at0 p0 (k+1)).2.2 ws bs vw vb k v rows kid c) (hap:Apped (O+1) 114 5 v v4 (k+1) (kcs rows++[.int .i64 kid.1.kind,.int .i64 kid.1.size,kid.2.1,kid.2.2.1,kid.2.2.2]) c c4 q)
    (hok:(kidsK f at0 p0 (k+1)).2.1=0) (hkids:(rows++[kid]).map (·.1)=(kidsK f at0 p0 (k+1)).1) (hlen:rows.length=k) (htrb:∀ r,r∈rows++[kid]→TrB r.1) :
    KL W0 w D N O sv o f at0 p0 ws bs vw vb (k+1) v4 (rows++[kid]) (c4.setCell ⟨N,4,none⟩ v4)∧NS W0 w D N O sv (kidsK f at0 p0 (k+1)).2.2 (.int .i64 o.kind) (.int .i64 o.size) vw vb v o c4:=by
 obtain ⟨l1,l2,l3,l4⟩:=h.ns.lo
 have bN:N<c.heap.size:=(gE h.ns.nod).1
 have bO:O<c.heap.size:=(gE h.ns.obj).1
 have hv:∀ j,v.ownBlock=some j→O<j:=fun j hj=>(h.own.lt j hj).1
 have hk:Keep (fun j=>v.ownBlock=some j) c c4:=(Keep.refl _ c).grown hap.grew (fun j hj=>.inl hj)
 have hns:NS W0 w D N O sv (kidsK f at0 p0 (k+1)).2.2 (.int .i64 o.kind) (.int .i64 o.size) vw vb v o c4 :=
  ⟨(hk.block _ h.ns.dec.lt (fun e=>by have:=hv _ e;omega)).trans h.ns.dec,(hk.block _ bN (fun e=>by have:=hv _ e;omega)).trans h.ns.nod,(hk.block _ bO (fun e=>by have:=hv _ e;omega)).trans h.ns.obj,
   h.ns.keep.trans hk (fun j hj=>.inr (by have:=hv _ hj;omega)),((h.ns.base.mono (fun _ h=>h.elim)).trans hk (fun j hj=>.inl hj):Keep (fun j=>v.ownBlock=some j) W0 c4).new (fun j hj=>by have:=hv _ hj;omega),h.ns.lo⟩
 have hkN:Keep (fun j=>j=N) c4 (c4.setCell ⟨N,4,none⟩ v4):=(Keep.refl (fun j=>j=N) c4).setCell (p:=⟨N,4,none⟩) (.inl rfl) _
 have hv4:∀ j,v4.ownBlock=some j→v.ownBlock=some j∨c.heap.size≤j:=fun j hj=>(zu hap j hj).imp id (fun e=>by omega)
 have hv4O:∀ j,v4.ownBlock=some j→O<j:=fun j hj=>(hap.own.lt j hj).1
 refine ⟨⟨hns.put 4 v4 _ _ _ _ _ (by omega) rfl,hok,hkids,by simp [hlen],?_,?_,htrb⟩,hns⟩
 ·have:=zF hap.own hkN (fun j hj e=>by have:=hv4O j hj;omega)
  rw [zPC]
  simpa [kcs] using this
 ·have f1:=(h.foot.keep hk (fun j hj e=>hj.2.2 e)).keep hkN (fun j hj e=>by have:=hj.1;omega)
  refine f1.mono (fun j hj=>hj.2.1) (fun j hj=>⟨hj.1,?_,fun e=>?_⟩)
  ·have:=hk.size
   have:=hkN.size
   have:=hj.2.1
   omega
  ·rcases hv4 j e with e2 | e2
   ·exact hj.2.2 e2
   ·have:=hj.2.1;omega
theorem KL.post {W0 w:World} {D N O:Nat} {sv:Value} {o:Ob} {f:Int→Int→Tr×Int×Int} {at0 p0:Int} {ws bs:List Int} {vw vb:Value} {k:Nat} {v:Value} {rows:List (Tr×Value×Value×Value)} {c c':World} {r:Tr×Int×Int}
    (h:KL W0 w D N O sv o f at0 p0 ws bs vw vb k v rows c) (hc:NS W0 w D N O sv (kidsK f at0 p0 k).2.2 (.int .i64 o.kind) (.int .i64 o.size) vw vb v o c') (hk:Keep (fun j=>j=N) c c') (hr:r=(.mk o.kind o.size ws bs (kidsK f at0 p0 k).1,0,(kidsK f at0 p0 k).2.2))
    (hw:ws.length≤10000000) (hb:bs.length≤10000000) (hn:k≤10000000) :
    NPost r D sv w (.returned (.tuple #[.agg #[o.kind,o.size,vw,vb,v],.int .u16 0])) c':=by
 obtain ⟨l1,l2,l3,l4⟩:=h.ns.lo
 subst hr
 refine ⟨vw,vb,v,rfl,hc.dec,hc.keep,?_,?_⟩
 ·have f1:=h.foot.keep hk (fun j hj e=>by have:=hj.1;omega)
  have f2:=(Foot.of_own h.own).keep hk (fun j hj e=>by have:=(h.own.lt j hj).1;omega)
  refine ((f1.and f2).imp (fun u hu=>by
   rw [← h.kids]
   have h5:=hu.2
   rw [← h.len] at h5
   exact .mk rows hu.1.1 hu.1.2.1 h5 hu.1.2.2)).mono (fun j hj=>hj.2) (fun j hj=>?_)
  have hs:=hk.size
  rcases hj with hj | hj
  ·have:=hj.1;have:=hj.2.1;omega
  ·have:=h.own.lt j hj;omega
 ·rw [← h.kids]
  exact .mk hw hb (by rw [List.length_map,h.len];exact hn) (fun t ht=>by
   obtain ⟨r,hr,rfl⟩:=List.mem_map.1 ht
   exact h.trb r hr)
theorem zgA {D:Nat} {sv:Value} {sz:List Int} {wd:Int→Int→Int×Int} {paid:Int} {w:World} (hD:Dec D sv paid w) (h:Sou sv sz wd w) (seg at_ n:Int) (hn:0≤n) (h0:0≤at_) (h1:at_+n≤10000000) :
    Calls Tryz.prog 266 #[.pointer (some ⟨D,0,none⟩),.int .i64 seg,.int .i64 at_,.int .i64 n] w fun e w'=>∃ A c,e=.returned (.slice A (wordsP wd seg at_ n.toNat).length c)∧Grow w w'∧w'.ownsRow w.heap.size 22 1 (.slice A (wordsP wd seg at_ n.toNat).length c) (wordsP wd seg at_ n.toNat).length (u64s (wordsP wd seg at_ n.toNat)):=by
 obtain ⟨m,rfl⟩:∃ m:Nat,n=m:=⟨n.toNat,by omega⟩
 rw [Int.toNat_natCast,zm]
 exact zoC hD h seg at_ m h0 h1
theorem zFI {D:Nat} {sv:Value} {sz:List Int} {wd:Int→Int→Int×Int} {paid:Int} {w:World} (hD:Dec D sv paid w) (h:Sou sv sz wd w) (hv:∀ seg at_,0≤(wd seg at_).1∧(wd seg at_).1≤18446744073709551615) (seg at_ n:Int) (hn0:0≤n) (h0:0≤at_) (h1:at_≤1000000) (hn:n≤1000000) :
    Calls Tryz.prog 267 #[.pointer (some ⟨D,0,none⟩),.int .i64 seg,.int .i64 at_,.int .i64 n] w fun e w'=>∃ A c,e=.returned (.slice A (bytesP wd seg at_ n.toNat).length c)∧Grow w w'∧w'.ownsRow w.heap.size 5 1 (.slice A (bytesP wd seg at_ n.toNat).length c) (bytesP wd seg at_ n.toNat).length (u8s (bytesP wd seg at_ n.toNat)):=by
 obtain ⟨m,rfl⟩:∃ m:Nat,n=m:=⟨n.toNat,by omega⟩
 rw [Int.toNat_natCast,zGA]
 exact zgF hD h hv seg at_ m h0 h1 (by omega)
theorem zZA:(Tryz.prog.info? 114).map (fun i=>(i.zero,i.size,i.bytes))=some (some (.agg qA),5,88):=by kernel_rfl
theorem zzA {wd:Int→Int→Int×Int} {f:Int→Int→Int→Tr×Int×Int} {o:Ob} {p:Int} {ws bs:List Int} {at0:Int} {n:Nat} (hws:wordsP wd o.seg o.at_ (if o.size=5 then o.count else o.data).toNat=ws) (hbs:(if o.size=2 then bytesP wd o.seg o.at_ o.count.toNat else [])=bs) (hat:(if o.size=6 then o.at_ else o.at_+o.data)=at0)
    (hn:(if o.size=6 then o.count else o.ptrs).toNat=n) (hok:(kidsK (f o.seg) at0 p n).2.1=0):nodeT wd f o p=(.mk o.kind o.size ws bs (kidsK (f o.seg) at0 p n).1,0,(kidsK (f o.seg) at0 p n).2.2):=by
 unfold nodeT
 rw [hws,hbs,hat,hn,if_pos hok]
theorem zzD {wd:Int→Int→Int×Int} {f:Int→Int→Int→Tr×Int×Int} {o:Ob} {p:Int} {at0:Int} {n:Nat} (hat:(if o.size=6 then o.at_ else o.at_+o.data)=at0)
    (hn:(if o.size=6 then o.count else o.ptrs).toNat=n) (hok:(kidsK (f o.seg) at0 p n).2.1≠0):nodeT wd f o p=(tr0,(kidsK (f o.seg) at0 p n).2.1,(kidsK (f o.seg) at0 p n).2.2):=by
 unfold nodeT
 rw [hat,hn,if_neg hok]
theorem zb {c:World} {N:Nat} (b0 b1 b2 b3 b4:Value):Keep (fun j=>j=N) c (((((c.setCell ⟨N,0,none⟩ b0).setCell ⟨N,1,none⟩ b1).setCell ⟨N,2,none⟩ b2).setCell ⟨N,3,none⟩ b3).setCell ⟨N,4,none⟩ b4) :=
 (((((Keep.refl (fun j=>j=N) c).setCell (p:=⟨N,0,none⟩) (.inl rfl) _).setCell (p:=⟨N,1,none⟩) (.inl rfl) _).setCell (p:=⟨N,2,none⟩) (.inl rfl) _).setCell (p:=⟨N,3,none⟩) (.inl rfl) _).setCell (p:=⟨N,4,none⟩) (.inl rfl) _
theorem zeA {base e size n:Nat} {v:Value} {xs:List Value} {c:World} (h:c.ownsRow base e size v n xs) {N:Nat} (hN:N<base) (i:Nat) (u:Value):(c.setCell ⟨N,i,none⟩ u).ownsRow base e size v n xs :=
 zF h ((Keep.refl (fun j=>j=N) c).setCell (p:=⟨N,i,none⟩) (.inl rfl) _) (fun k hk e=>by have:=(h.lt k hk).1;omega)
theorem zv:Tryz.prog.underlying 112=some (.slice 114):=by kernel_rfl
theorem zDJ {sz:List Int} {wd:Int→Int→Int×Int} (ho:SouOk sz wd) (sv:Value) (W0:World) (D:Nat) (paid seg at_:Int) (w:World) (hS:Sou sv sz wd W0) (hD:Dec D sv paid w) (hD0:W0.heap.size≤D) (hg:Grow W0 w) (p0:0≤paid) (p1:paid≤8192) :
    Calls Tryz.prog 244 #[.pointer (some ⟨D,0,none⟩),.int .i64 seg,.int .i64 at_,qJ] w (NPost (nodeP sz wd 0 seg at_ paid) D sv w):=by
 obtain ⟨T,pv,fw,fs,r,rfl,-⟩:=hS.out
 have HSO:=LH ho
 have HS0:=LH hS
 have hg0:=(Keep.refl NoB w).alloc (.cells qA 114)
 have HS:=LH (hS.grow (hg.grow hg0))
 have dc0:=(hD.grow hg0).c0
 have HD:=LH (And.intro hD (And.intro hD0 hg))
 have E0:Hid (nodeP sz wd 0 seg at_ paid=nodeS sz wd true (fun _ _ _=>(tr0,0,0)) seg at_ paid):=LH rfl
 clear hS hD hD0 hg hg0 ho
 go_enter Tryz.func244,Tryz.ntmps244
 go_wp2_with fail
 refine (zy HS.out HSO.out seg at_).mono ?_
 rintro e w1 ⟨rfl,hg1⟩
 have HO:=LH (zd HSO.out seg at_)
 unfold nodeS at E0
 generalize (followP sz wd seg at_).1=o at *
 generalize (followP sz wd seg at_).2=fe at *
 have HNS:=LH (zWB (o:=o) HD.out.1 HD.out.2.1 HD.out.2.2 hg1)
 clear hg1 dc0
 by_cases he:fe=0
 case neg =>
  have eb:(fe != 0)=true:=by simp [he]
  have E:=LH (E0.out.trans (if_neg he))
  clear he
  obtain ⟨n0,n1,n2,n3,n4,nf⟩:=zA HNS.out.nod
  have HNE:=LH (HNS.out.all (.int .i64 0) (.int .i64 0) (.slice none 0 0) (.slice none 0 0) (.slice none 0 0))
  go_wp2
  (try simp only [Exit.inBlock,Exit.then])
  obtain ⟨r0,r1,r2,r3,r4,rf⟩:=zA HNE.out.nod
  refine bodyPost_ret (v:=.tuple #[.agg qA,.int .u16 fe]) ?_ rfl (zk HNE.out (er:=fe) E.out)
  rw [results_cell_tmp rfl];go_simp
 subst he
 replace E0:=LH (E0.out.trans (if_pos (by simp)))
 obtain ⟨o0,o1,o2,o3,o4,o5,o6,of⟩:=zC HNS.out.drew.obj
 have hD1:=HNS.out.drew.dec.c1
 have hDf:=zN 1 HNS.out.drew.dec
 have hDc0:=HNS.out.drew.dec.c0
 have how:=za HO.out
 have hw0:=how.1
 have hw1:=how.2
 have HNP:=LH (HNS.out.drew)
 have hs1:IntKind.i64.wrap (1+obWords o)=1+obWords o:=IntWalk.i64_in _ (by omega)
 have hs2:IntKind.i64.wrap (paid+(1+obWords o))=paid+(1+obWords o):=IntWalk.i64_in _ (by omega)
 clear how
 go_wp2
 refine zE [0,1,2,3,4,5,6,7,8,9,10] [5,10] [3,4] [10] rfl (by kernel_rfl) ?_
 iterate 3
  refine ord_p ?_
 refine oc1 hD1 ?_
 refine oc7 o0 o1 o2 o3 o4 o5 o6 ?_
 refine zG rfl rfl rfl rfl rfl Tryz.func264 rfl rfl [.agg o] rfl ?_
 refine (zSA o _ HO.out.ok).mono ?_
 rintro e w2 ⟨rfl,hg2⟩
 refine ⟨_,rfl,fun _=>hg2,?_⟩
 have HNQ:=LH (HNP.out.grow hg2)
 have hD1':=HNQ.out.dec.c1
 have hDf':=zN 1 HNQ.out.dec
 clear hg2 o0 o1 o2 o3 o4 o5 o6 of hD1 hDf hDc0
 simp only [Act.put,pB,pC,pD]
 iterate 4
  refine ord_p ?_
 refine zJ rfl rfl rfl rfl ?_ ?_ (fun h=>absurd (by simp) h) ?_
 rotate_left
 ·go_simp;with_reducible rfl
 refine zD ?_
 replace HNS:=LH (HNQ.out.pay (paid+(1+obWords o)))
 clear HNP HNQ hD1' hDf' hs1 hs2
 generalize w2.setCell ⟨D,1,none⟩ (.int .i64 (paid+(1+obWords o)))=cw at HNS ⊢
 obtain ⟨o0,o1,o2,o3,o4,o5,o6,of⟩:=zC HNS.out.obj
 by_cases hk:o.kind=0
 case neg =>
  have eb:(o.kind != 0)=true:=by simp [hk]
  have E:=LH (E0.out.trans (if_pos ⟨hk,by trivial⟩))
  clear hk
  obtain ⟨n0,n1,n2,n3,n4,nf⟩:=zA HNS.out.nod
  have HNE:=LH (HNS.out.all (.int .i64 0) (.int .i64 0) (.slice none 0 0) (.slice none 0 0) (.slice none 0 0))
  go_wp2
  (try simp only [Exit.inBlock,Exit.then])
  obtain ⟨r0,r1,r2,r3,r4,rf⟩:=zA HNE.out.nod
  refine bodyPost_ret (v:=.tuple #[.agg qA,.int .u16 21]) ?_ rfl (zk HNE.out (er:=21) E.out)
  rw [results_cell_tmp rfl];go_simp
 have eb:(o.kind != 0)=false:=by simp [hk]
 replace E0:=LH (E0.out.trans (if_neg (fun h=>h.1 hk)))
 have hob:o=ob0:=by
  rcases HO.out.cases with h | h | h
  ·exact h
  ·have:=h.1;omega
  ·have:=h.1;omega
 have Hob:=LH hob
 clear hob hk
 have hD1:=HNS.out.dec.c1
 by_cases hp:8192<paid+(1+obWords o)
 ·have E:=LH (E0.out.trans (if_pos hp))
  obtain ⟨n0,n1,n2,n3,n4,nf⟩:=zA HNS.out.nod
  have HNE:=LH (HNS.out.all (.int .i64 0) (.int .i64 0) (.slice none 0 0) (.slice none 0 0) (.slice none 0 0))
  go_wp2
  (try simp only [Exit.inBlock,Exit.then])
  obtain ⟨r0,r1,r2,r3,r4,rf⟩:=zA HNE.out.nod
  refine bodyPost_ret (v:=.tuple #[.agg qA,.int .u16 22]) ?_ rfl (zk HNE.out (er:=22) E.out)
  rw [results_cell_tmp rfl];go_simp
 replace E0:=LH (E0.out.trans (if_neg hp))
 have hpp:paid+(1+obWords o)≤8192:=by omega
 clear hp
 have da0:0≤o.data:=HO.out.ok.d.1
 have da1:o.data≤65535:=HO.out.ok.d.2
 have at0:0≤o.at_:=HO.out.at0
 have at1:o.at_≤100000:=by rw [Hob.out];simp [ob0]
 have hz2:(o.size==2)=false:=by rw [Hob.out];rfl
 have hz5:(o.size==5)=false:=by rw [Hob.out];rfl
 have hz6:(o.size==6)=false:=by rw [Hob.out];rfl
 have hpt:o.ptrs≤0:=by rw [Hob.out];simp [ob0]
 have hdt:o.data.toNat≤1000000:=by omega
 obtain ⟨n0,n1,n2,n3,n4,nf⟩:=zA HNS.out.nod
 go_wp2
 go_region
 replace HNS:=LH (((HNS.out.put 0 (.int .i64 o.kind) _ _ _ _ _ (by omega) rfl).put 1 (.int .i64 o.size) _ _ _ _ _ (by omega) rfl).drew)
 clear o0 o1 o2 o3 o4 o5 o6 of n0 n1 n2 n3 n4 nf hD1
 generalize ((cw.setCell ⟨w.heap.size,0,none⟩ (.int .i64 o.kind)).setCell ⟨w.heap.size,1,none⟩ (.int .i64 o.size)).drew=cv at HNS ⊢
 obtain ⟨o0,o1,o2,o3,o4,o5,o6,of⟩:=zC HNS.out.obj
 have hs3:IntKind.i64.wrap (o.at_+o.data)=o.at_+o.data:=IntWalk.i64_in _ (by omega)
 go_wp2
 go_region
 replace HNS:=LH HNS.out.drew
 clear o0 o1 o2 o3 o4 o5 o6 of hs3
 generalize cv.drew=cu at HNS ⊢
 obtain ⟨o0,o1,o2,o3,o4,o5,o6,of⟩:=zC HNS.out.obj
 have hO1:w1.heap.size+1≤cu.heap.size:=(gE HNS.out.obj).1
 have hNO:w.heap.size<w1.heap.size:=HNS.out.lo.2.2.2
 have hNOn:w.heap.size≠w1.heap.size:=by omega
 go_wp2_with fail
 refine (zgA HNS.out.dec (HS0.out.grow HNS.out.base) o.seg o.at_ o.data da0 at0 (by omega)).mono ?_
 rintro e w3 ⟨A1,c1,rfl,hg,ho1⟩
 replace HNS:=LH (HNS.out.grow hg)
 have HW:=LH (ztA ho1 hO1)
 clear hg ho1 o0 o1 o2 o3 o4 o5 o6 of hO1
 obtain ⟨o0,o1,o2,o3,o4,o5,o6,of⟩:=zC HNS.out.obj
 obtain ⟨n0,n1,n2,n3,n4,nf⟩:=zA HNS.out.nod
 go_wp2
 replace HNS:=LH (HNS.out.put 2 (.slice A1 (wordsP wd o.seg o.at_ o.data.toNat).length c1) _ _ _ _ _ (by omega) rfl)
 replace HW:=LH (zeA HW.out (N:=w.heap.size) (by omega) 2 (.slice A1 (wordsP wd o.seg o.at_ o.data.toNat).length c1))
 generalize w3.setCell ⟨w.heap.size,2,none⟩ (.slice A1 (wordsP wd o.seg o.at_ o.data.toNat).length c1)=c2 at HNS HW ⊢
 have HV:=LH (World.ownsRow_nil c2 (w1.heap.size+1) 5 1)
 have hn0:(if o.size=6 then o.count else o.ptrs).toNat=0:=by rw [Hob.out];rfl
 have E:=LH (E0.out.trans (zzA (ws:=wordsP wd o.seg o.at_ o.data.toNat) (bs:=[]) (at0:=o.at_+o.data) (n:=0) (by rw [Hob.out];rfl) (by rw [Hob.out];rfl) (by rw [Hob.out];rfl) hn0 rfl))
 clear o0 o1 o2 o3 o4 o5 o6 of n0 n1 n2 n3 n4 nf hn0
 go_loopw [109] (fun v wr=>wr=c2∧v=.int .i64 0) (fun v _=>0)
 case atStart=>exact ⟨rfl,rfl⟩
 case round =>
  obtain ⟨rfl,rfl⟩:=hrel
  obtain ⟨n0,n1,n2,n3,n4,nf⟩:=zA HNS.out.nod
  have HNE:=LH (HNS.out.all (.int .i64 o.kind) (.int .i64 o.size) (.slice A1 (wordsP wd o.seg o.at_ o.data.toNat).length c1) (.slice none 0 0) (.slice none 0 0))
  go_wp2
  (try simp only [Exit.inBlock,Exit.then])
  obtain ⟨r0,r1,r2,r3,r4,rf⟩:=zA HNE.out.nod
  refine bodyPost_ret (v:=.tuple #[.agg #[o.kind,o.size,.slice A1 (wordsP wd o.seg o.at_ o.data.toNat).length c1,qI,qI],.int .u16 0]) ?_ rfl ((KL.begin (bs:=[]) (at0:=o.at_+o.data) (f:=((fun _ _ _=>(tr0,0,0)) o.seg)) HNS.out HW.out HV.out).post HNE.out (zb _ _ _ _ _) E.out (by rw [zm];omega) (by simp) (by omega))
  rw [results_cell_tmp rfl];go_simp
end Go.Proofs.YtfkcpaahdlkcdaaGreat

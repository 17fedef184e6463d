import Derived.Test.YtfkcpaahdlkcdaaGreatRRecvSum01
import Derived.Test.YtfkcpaahdlkcdaaGreatRRecvSum09
import Derived.Test.YtfkcpaahdlkcdaaGreatRRecvSum13
import Derived.Test.YtfkcpaahdlkcdaaGreatRRecvSum18
import Derived.Test.YtfkcpaahdlkcdaaGreatRRecvSum19
import Derived.Test.YtfkcpaahdlkcdaaGreatRRecvSum20
import Derived.Test.YtfkcpaahdlkcdaaGreatRRecvSum23
import Derived.OpenShut
import Derived.ShutString
import Derived.ChangeOld
import Derived.SizedLaws
import Derived.Deep.Matrix
import Derived.Deep.Grids
set_option linter.unusedSimpArgs false
set_option linter.unusedVariables false
set_option maxRecDepth 100000
set_option maxHeartbeats 16000000
namespace Go.Proofs.YtfkcpaahdlkcdaaGreat
open Go.RowKit
theorem zJE (last:Bool) (f:Int→Int→Int→Tr×Int×Int) (a:List (List Int)) (ho:OkA a) (A:Option Addr) (c:Nat) (w:World) (h:RowsR .u64 a (.slice A a.length c) w) (seg at_ paid deep:Int) (p0:0≤paid) (p1:paid≤8192) (hl:last=decide (32≤deep)) (hd0:0≤deep) (hd1:deep≤32) (IH:Hid (last=false→∀ (seg at_ paid:Int) (w:World),RowsR .u64 a (.slice A a.length c) w→0≤paid→paid≤8192→Calls Tryz.prog 142 #[.agg #[.slice A a.length c,.bool false,.slice none 0 0,.int .i64 paid,.int .i64 0],.int .i64 seg,.int .i64 at_,.int .i64 (deep+1)] w (QNPost A a.length c (f seg at_ paid) w))) (hfp:∀ s x p,0≤p→p≤8192→(f s x p).2.1=0→0≤(f s x p).2.2∧(f s x p).2.2≤8192) :
    Calls Tryz.prog 142 #[.agg #[.slice A a.length c,.bool false,.slice none 0 0,.int .i64 paid,.int .i64 0],.int .i64 seg,.int .i64 at_,.int .i64 deep] w (QNPost A a.length c (nodeS (szs a) (wordA a) last f seg at_ paid) w):=by
 by_cases hfe:(followP (szs a) (wordA a) seg at_).2=0
 case neg=>exact zLG last f a ho A c w h seg at_ paid deep p0 p1 hl hfe
 by_cases hk:(followP (szs a) (wordA a) seg at_).1.kind=0
 ·have hno:¬ ((followP (szs a) (wordA a) seg at_).1.kind≠0∧last=true):=fun x=>x.1 hk
  by_cases hc:8192<paid+(1+obWords (followP (szs a) (wordA a) seg at_).1)
  ·exact zuG last f a ho A c w h seg at_ paid deep p0 p1 hl hfe hno hk hc
  ·exact zIE last f a ho A c w h seg at_ paid deep p0 p1 hl hd0 hd1 IH hfp hfe hno hc
 ·by_cases hd:32≤deep
  ·exact zzH last f a ho A c w h seg at_ paid deep p0 p1 hl hfe hk hd
  ·have hno:¬ ((followP (szs a) (wordA a) seg at_).1.kind≠0∧last=true):=fun x=>by
     have:=x.2
     rw [hl] at this
     exact hd (by simpa using this)
   by_cases hc:8192<paid+(1+obWords (followP (szs a) (wordA a) seg at_).1)
   ·exact zvG last f a ho A c w h seg at_ paid deep p0 p1 hl hfe hno hk hd hc
   ·exact zIE last f a ho A c w h seg at_ paid deep p0 p1 hl hd0 hd1 IH hfp hfe hno hc
theorem zMG (a:List (List Int)) (ho:OkA a) (A:Option Addr) (c:Nat):∀ (l:Nat) (deep:Int),deep=32-(l:Int)→l≤32→∀ (seg at_ paid:Int) (w:World),RowsR .u64 a (.slice A a.length c) w→0≤paid→paid≤8192 →
    Calls Tryz.prog 142 #[.agg #[.slice A a.length c,.bool false,.slice none 0 0,.int .i64 paid,.int .i64 0],.int .i64 seg,.int .i64 at_,.int .i64 deep] w (QNPost A a.length c (nodeP (szs a) (wordA a) l seg at_ paid) w)
 | 0,deep,hd,hl,seg,at_,paid,w,h,p0,p1 =>
  zJE true (fun _ _ _=>(tr0,0,0)) a ho A c w h seg at_ paid deep p0 p1 (by rw [hd];rfl) (by omega) (by omega) (LH (fun h=>by cases h)) (fun _ _ _ _ _ _=>⟨by decide,by decide⟩)
 | l + 1, deep, hd, hl, seg, at_, paid, w, h, p0, p1 =>
  zJE false (nodeP (szs a) (wordA a) l) a ho A c w h seg at_ paid deep p0 p1 (by rw [eq_comm,decide_eq_false_iff_not];omega) (by omega) (by omega)
   (LH (fun _ seg at_ paid w h p0 p1=>zMG a ho A c l (deep+1) (by omega) (by omega) seg at_ paid w h p0 p1)) (fun s=>zfB (zu ho) l s)
def QDPost (r:Tr×Int) (w:World) (e:Ending) (w':World):Prop :=
 ∃ (k s:Int) (A1 A2 A3:Option Addr) (n1 c1 n2 c2 n3 c3:Nat),e=.returned (.tuple #[.agg #[.int .i64 k,.int .i64 s,.slice A1 n1 c1,.slice A2 n2 c2,.slice A3 n3 c3],.int .i64 r.2])∧Grow w w' ∧
  (r.2=0→k=r.1.kind∧s=r.1.size∧TrB r.1∧TrR w' r.1 (.slice A1 n1 c1) (.slice A2 n2 c2) (.slice A3 n3 c3))
theorem zZK {w0 c:World} {B:Nat} (hg:Grow w0 c) (h2:c.heap[B]? = some (.cells #[.int .i64 0,.int .i64 0,.slice none 0 0,.slice none 0 0,.slice none 0 0] 114 (0,0))) (A:Option Addr) (n ca:Nat) (p2 e2 k5 s5:Int) (x1 x2 x3:Value) :
    ((c.alloc (.cells #[.slice A n ca,.bool false,.slice none 0 0,.int .i64 p2,.int .i64 e2] 216)).alloc (.cells #[.int .i64 k5,.int .i64 s5,x1,x2,x3] 114)).heap[c.heap.size]? = some (.cells #[.slice A n ca,.bool false,.slice none 0 0,.int .i64 p2,.int .i64 e2] 216 (0,0)) ∧
    ((c.alloc (.cells #[.slice A n ca,.bool false,.slice none 0 0,.int .i64 p2,.int .i64 e2] 216)).alloc (.cells #[.int .i64 k5,.int .i64 s5,x1,x2,x3] 114)).heap[c.heap.size+1]? = some (.cells #[.int .i64 k5,.int .i64 s5,x1,x2,x3] 114 (0,0)) ∧
    ((c.alloc (.cells #[.slice A n ca,.bool false,.slice none 0 0,.int .i64 p2,.int .i64 e2] 216)).alloc (.cells #[.int .i64 k5,.int .i64 s5,x1,x2,x3] 114)).heap[B]? = some (.cells #[.int .i64 0,.int .i64 0,.slice none 0 0,.slice none 0 0,.slice none 0 0] 114 (0,0)) ∧
    Grow w0 ((c.alloc (.cells #[.slice A n ca,.bool false,.slice none 0 0,.int .i64 p2,.int .i64 e2] 216)).alloc (.cells #[.int .i64 k5,.int .i64 s5,x1,x2,x3] 114))∧Grow c ((c.alloc (.cells #[.slice A n ca,.bool false,.slice none 0 0,.int .i64 p2,.int .i64 e2] 216)).alloc (.cells #[.int .i64 k5,.int .i64 s5,x1,x2,x3] 114)):=by
 obtain ⟨ha,hb0,hga⟩:=zU c (.cells #[.slice A n ca,.bool false,.slice none 0 0,.int .i64 p2,.int .i64 e2] 216) (.cells #[.int .i64 k5,.int .i64 s5,x1,x2,x3] 114)
 exact ⟨ha,hb0,Grow.heap hga h2,hg.grow hga,hga⟩
theorem zGF (a:List (List Int)) (ho:OkA a) (A:Option Addr) (c:Nat) (w:World) (h:RowsR .u64 a (.slice A a.length c) w):Calls Tryz.prog 67 #[.slice A a.length c] w (QDPost (decP a) w):=by
 have hg0:=(Keep.refl NoB w).alloc (.cells #[.int .i64 0,.int .i64 0,.slice none 0 0,.slice none 0 0,.slice none 0 0] 114)
 have HN:=LH (heap_alloc_new w (.cells #[.int .i64 0,.int .i64 0,.slice none 0 0,.slice none 0 0,.slice none 0 0] 114))
 have HG:=LH hg0
 have H:=LH (h.grow hg0)
 have HA:=LH ho
 clear h ho hg0
 go_enter Tryz.func67,Tryz.ntmps67
 cases hf:fitsB (szs a) with
 | false =>
  have E:Hid (decP a=(tr0,1)):=LH (by unfold decP;rw [if_neg (by simp [hf])])
  have HR:=LH (zFG a HA.out A c _ H.out hf)
  clear hf
  go_wp2_with fail
  refine HR.out.mono ?_
  rintro e w1 ⟨rfl,hg⟩
  replace HN:=LH (hg.heap HN.out)
  replace HG:=LH (HG.out.grow hg)
  clear hg HR
  obtain ⟨n0,n1,n2,n3,n4,nf⟩:=zA HN.out
  have hst:=LH (zZ (.int .i64 0) (.int .i64 0) (.slice none 0 0) (.slice none 0 0) (.slice none 0 0) HG.out (Nat.le_refl _) HN.out)
  go_wp2
  (try simp only [Exit.inBlock,Exit.then])
  obtain ⟨r0,r1,r2,r3,r4,rf⟩:=zA hst.out.1
  refine bodyPost_ret (v:=.tuple #[.agg #[.int .i64 0,.int .i64 0,.slice none 0 0,.slice none 0 0,.slice none 0 0],.int .i64 1]) ?_ rfl ?_
  ·rw [results_cell_tmp rfl];go_simp
  ·rw [E.out]
   exact ⟨0,0,none,none,none,0,0,0,0,0,0,rfl,hst.out.2,fun h=>by cases h⟩
 | true =>
  have E:Hid (decP a=((nodeP (szs a) (wordA a) 32 0 0 0).1,(nodeP (szs a) (wordA a) 32 0 0 0).2.1)):=LH (by unfold decP;rw [if_pos hf])
  have HR:=LH (zCC a A c _ H.out hf)
  clear hf
  go_wp2_with fail
  refine HR.out.mono ?_
  rintro e w1 ⟨rfl,hg⟩
  replace HN:=LH (hg.heap HN.out)
  replace HG:=LH (HG.out.grow hg)
  replace H:=LH (H.out.grow hg)
  clear hg HR
  have HW1:Hid (w.heap.size<w1.heap.size):=LH (gE HN.out).1
  have hcall:=zMG a HA.out A c 32 0 (by decide) (by decide) 0 0 0 w1 H.out (by decide) (by decide)
  have HC:=LH hcall
  clear hcall
  go_wp2_with fail
  refine HC.out.mono ?_
  rintro e w2 ⟨p5,k5,s5,B1,B2,B3,m1,d1,m2,d2,m3,d3,rfl,hg,hres⟩
  clear HC
  generalize nodeP (szs a) (wordA a) 32 0 0 0=r at *
  obtain ⟨e5,he5⟩:∃ e5,r.2.1=e5:=⟨_,rfl⟩
  rw [he5]
  replace HN:=LH (hg.heap HN.out)
  replace HG:=LH (HG.out.grow hg)
  obtain ⟨kC,kD,kE,kG,kg⟩:=zZK HG.out HN.out A a.length c p5 e5 k5 s5 (.slice B1 m1 d1) (.slice B2 m2 d2) (.slice B3 m3 d3)
  obtain ⟨c0,c1,c2,c3,c4,cf⟩:=zA kC
  have hlt:=(gE HN.out).1
  have HLT:Hid (w.heap.size<w2.heap.size):=LH hlt
  have KC:=LH kC
  have KD:=LH kD
  have KE:=LH kE
  have KG:=LH kG
  have Kg:=LH kg
  have HRS:=LH hres
  have HE5:=LH he5
  clear hg kC kD kE kG kg hres he5 hlt
  by_cases hz:e5=0
  case neg =>
   have hzb:(e5 != 0)=true:=by simpa using hz
   have HZ:=LH hz
   clear hz
   go_wp2
   clear c0 c1 c2 c3 c4 cf
   revert KC KD KE KG Kg
   generalize ((w2.alloc (.cells #[.slice A a.length c,.bool false,.slice none 0 0,.int .i64 p5,.int .i64 e5] 216)).alloc (.cells #[.int .i64 k5,.int .i64 s5,.slice B1 m1 d1,.slice B2 m2 d2,.slice B3 m3 d3] 114))=w3
   intro KC KD KE KG Kg
   obtain ⟨wd,hwd⟩:∃ wd:World,w3.drew=wd:=⟨_,rfl⟩
   have hdr:=(Keep.refl NoB w3).drew
   rw [hwd] at hdr
   replace KC:=LH (Grow.heap hdr KC.out)
   replace KE:=LH (Grow.heap hdr KE.out)
   replace KG:=LH (KG.out.grow hdr)
   clear hdr
   have HNE:Hid (¬ w2.heap.size=w.heap.size):=LH (by have:=HLT.out;omega)
   obtain ⟨c0,c1,c2,c3,c4,cf⟩:=zA KC.out
   obtain ⟨n0,n1,n2,n3,n4,nf⟩:=zA KE.out
   have hst:=LH (zZ (.int .i64 0) (.int .i64 0) (.slice none 0 0) (.slice none 0 0) (.slice none 0 0) KG.out (Nat.le_refl _) KE.out)
   refine zc (fun j=>j=w.heap.size) [0,1,2,3,4] [3,4] [2] [] rfl (by kernel_rfl) ?_
   rw [hwd]
   clear hwd
   iterate 2
    refine ord_p ?_
   refine ord_r (y:=by intro w' hg;have q:=hg.cell c4 HNE.out;go_simp;with_reducible rfl) (z:=?_)
   refine zK rfl rfl rfl rfl ?_ ?_ ?_ ?_
   rotate_left
   ·go_simp;with_reducible rfl
   ·exact fun _=>zb _ _ _ _ _
   refine ord_s ?_
   refine zF ?_
   clear c0 c1 c2 c3 c4 cf n0 n1 n2 n3 n4 nf
   revert hst
   generalize (((((wd.setCell ⟨w.heap.size,0,none⟩ (.int .i64 0)).setCell ⟨w.heap.size,1,none⟩ (.int .i64 0)).setCell ⟨w.heap.size,2,none⟩ (.slice none 0 0)).setCell ⟨w.heap.size,3,none⟩ (.slice none 0 0)).setCell ⟨w.heap.size,4,none⟩ (.slice none 0 0))=w4
   intro hst
   go_wp2
   (try simp only [Exit.inBlock,Exit.then])
   obtain ⟨r0,r1,r2,r3,r4,rf⟩:=zA hst.out.1
   refine bodyPost_ret (v:=.tuple #[.agg #[.int .i64 0,.int .i64 0,.slice none 0 0,.slice none 0 0,.slice none 0 0],.int .i64 e5]) ?_ rfl ?_
   ·rw [results_cell_tmp rfl];go_simp
   ·rw [E.out]
    exact ⟨0,0,none,none,none,0,0,0,0,0,0,by rw [HE5.out],hst.out.2,fun h=>absurd (HE5.out.symm.trans h) HZ.out⟩
  ·have hzb:(e5 != 0)=false:=by simpa using hz
   have HZ:=LH hz
   obtain ⟨q1,q2,q3,q4,q5,q6,q7,q8⟩:=HRS.out (HE5.out.trans hz)
   have HB:=LH q7
   have HF:=LH (q8.grow Kg.out)
   have HKS:=LH (And.intro q2 q3)
   clear hz q1 q2 q3 q4 q5 q6 q7 q8
   obtain ⟨g0,g1,g2,g3,g4,gf⟩:=zA KD.out
   obtain ⟨n0,n1,n2,n3,n4,nf⟩:=zA KE.out
   have hst:=LH (zZ (.int .i64 k5) (.int .i64 s5) (.slice B1 m1 d1) (.slice B2 m2 d2) (.slice B3 m3 d3) KG.out (Nat.le_refl _) KE.out)
   have HT:=LH (HF.out.keep (zb (N:=w.heap.size) (.int .i64 k5) (.int .i64 s5) (.slice B1 m1 d1) (.slice B2 m2 d2) (.slice B3 m3 d3)) (fun j hj e=>by have:=HW1.out;omega))
   go_wp2
   (try simp only [Exit.inBlock,Exit.then])
   obtain ⟨r0,r1,r2,r3,r4,rf⟩:=zA hst.out.1
   refine bodyPost_ret (v:=.tuple #[.agg #[.int .i64 k5,.int .i64 s5,.slice B1 m1 d1,.slice B2 m2 d2,.slice B3 m3 d3],.int .i64 0]) ?_ rfl ?_
   ·rw [results_cell_tmp rfl];go_simp
   ·rw [E.out]
    exact ⟨k5,s5,B1,B2,B3,m1,d1,m2,d2,m3,d3,by rw [HE5.out,HZ.out],hst.out.2,fun _=>⟨HKS.out.1,HKS.out.2,HB.out,HT.out.now⟩⟩
theorem zNG (a:List (List Int)) (ho:OkA a) (A:Option Addr) (c:Nat) (w:World) (h:RowsR .u64 a (.slice A a.length c) w):Calls Tryz.prog 17 #[.slice A a.length c] w fun e w'=>e=.returned (.int .i64 (checkP a))∧Grow w w':=by
 have HD:=LH (zGF a ho A c w h)
 have E:Hid (checkP a=if (decP a).2=0 then (if rightB 32 (decP a).1=true then 0 else 23) else (decP a).2):=LH rfl
 clear ho h
 go_enter Tryz.func17,Tryz.ntmps17
 go_wp2_with fail
 refine HD.out.mono ?_
 rintro e w1 ⟨k5,s5,B1,B2,B3,m1,d1,m2,d2,m3,d3,rfl,hg,hres⟩
 generalize decP a=r at *
 obtain ⟨e5,he5⟩:∃ e5,r.2=e5:=⟨_,rfl⟩
 rw [he5] at E hres ⊢
 have hga:=(Keep.refl NoB w1).alloc (.cells #[.int .i64 k5,.int .i64 s5,.slice B1 m1 d1,.slice B2 m2 d2,.slice B3 m3 d3] 114)
 have hz0:=heap_alloc_new w1 (.cells #[.int .i64 k5,.int .i64 s5,.slice B1 m1 d1,.slice B2 m2 d2,.slice B3 m3 d3] 114)
 obtain ⟨g0,g1,g2,g3,g4,gf⟩:=zA hz0
 have HG:=LH (hg.grow hga)
 have HG1:=LH hga
 have HRS:=LH hres
 clear hg hres hga hz0 HD he5
 by_cases hz:e5=0
 case neg =>
  have hzb:(e5 != 0)=true:=by simpa using hz
  replace E:=LH (E.out.trans (if_neg hz))
  clear hz
  go_wp2
  go_ret
  rw [E.out]
  exact ⟨rfl,HG.out⟩
 ·have hzb:(e5 != 0)=false:=by simpa using hz
  obtain ⟨q1,q2,q3,q4⟩:=HRS.out hz
  replace E:=LH (E.out.trans (if_pos hz))
  have HRT:=LH (zpC r.1 _ _ _ _ (q4.grow HG1.out) q3)
  rw [← q1,← q2] at HRT
  clear hz q1 q2 q3 q4
  go_wp2_with fail
  refine HRT.out.mono ?_
  rintro e w2 ⟨rfl,hg⟩
  clear HRT
  cases hr:rightB 32 r.1 with
  | true =>
   replace E:=LH (E.out.trans (if_pos hr))
   clear hr
   go_wp2
   go_ret
   rw [E.out]
   exact ⟨rfl,HG.out.grow hg⟩
  | false =>
   replace E:=LH (E.out.trans (if_neg (by simp [hr])))
   clear hr
   go_wp2
   go_ret
   rw [E.out]
   exact ⟨rfl,HG.out.grow hg⟩
theorem zNJ {l:List Int} {ad:Addr} {cm:Nat} {w:World} {FS:Nat→Prop} (hS:Foot (SliceR 1 (.slice (some ad) l.length cm) l.length (ints l)) w FS) (j:Nat) (hj:4*j≤l.length):Foot (SliceR 1 (.slice (some (ad.add (4*j))) (pageP l j).length (cm-4*j)) (pageP l j).length (ints (pageP l j))) w FS:=by
 have hpl:(pageP l j).length=min 4 (l.length-4*j):=by rw [zzA,List.length_take,List.length_drop]
 refine hS.imp (fun u hu=>?_)
 have h9:=hu.sub (4*j) (pageP l j).length (by omega)
 have e9:(l.drop (4*j)).take (pageP l j).length=pageP l j:=by
  rw [hpl,zzA]
  rcases Nat.le_total 4 (l.length-4*j) with h | h
  ·rw [Nat.min_eq_left h]
  ·rw [Nat.min_eq_right h,List.take_of_length_le (by rw [List.length_drop];exact Nat.le_refl _),List.take_of_length_le (by rw [List.length_drop];exact h)]
 rw [e9] at h9
 exact h9
theorem recvSum_calls (session : Int) (A : Option Addr) (c : Nat) (l : List Int) (Ay : Option Addr) (cy : Nat) (y : List Int) (k j sum : Int) (W : World) (h : SliceR 1 (.slice A l.length c) l.length (u8s l) W) (hu : okU l) (hy : SliceR 1 (.slice Ay y.length cy) y.length (u8s y) W) (huy : okU y) (hs0 : 0 ≤ session) (hs1 : session ≤ 18446744073709551615) (hk : 0 ≤ k ∧ k ≤ 255) (hj : 0 ≤ j ∧ j ≤ 255) (hsu : 0 ≤ sum ∧ sum ≤ 4294967295) :
    Calls Tryz.prog 9 #[.int .u64 session,.slice A l.length c,.slice Ay y.length cy,.int .u8 k,.int .u8 j,.int .u32 sum] W fun e w'=>e=.returned (.bool true)∧Grow W w':=by
 by_cases hlen:80<l.length
 ·have h8:(80:Int)<((l.length:Nat):Int):=by omega
  clear h hu hy huy hk hj hsu
  go_enter Tryz.func9,Tryz.ntmps9
  go_wp2_with fail
  refine (zPB _).mono ?_
  rintro e w1 ⟨rfl,hg⟩
  have HG:=LH hg
  clear hg
  go_wp2
  go_ret
  exact ⟨rfl,HG.out⟩
 have h8:¬ ((80:Int)<((l.length:Nat):Int)):=by omega
 have HBT:=LH (zKL l A c y Ay cy k W h hy (by omega) hu huy hk.1 hk.2)
 obtain ⟨hk0,hk1⟩:=hk
 obtain ⟨hj0,hj1⟩:=hj
 obtain ⟨hu0,hu1⟩:=hsu
 have HS01:=LH (And.intro hs0 hs1)
 clear h hu hy huy hlen hs0 hs1
 go_enter Tryz.func9,Tryz.ntmps9
 go_wp2_with fail
 refine HBT.out.mono ?_
 rintro e w1 ⟨a,A1,c1,rfl,hg,hoa,hfit,hrows⟩
 have HG:=LH hg
 have HO:=LH (And.intro hoa hfit)
 have HR:=LH hrows.rowsU.rows
 have hfl:=(zN hfit).2.2.2
 rw [zKD] at hfl
 have HFL:Hid (a.flatten.length≤1000000):=LH (by omega)
 clear hg hoa hfit hrows hfl HBT
 go_wp2_with fail
 refine (zmH session HS01.out.1 HS01.out.2 a HO.out.1 HO.out.2 HFL.out A1 c1 w1 HR.out).mono ?_
 rintro e w2 ⟨Am,cm,rfl,hg,hsz,Fm,hFm,-⟩
 replace HG:=LH (HG.out.grow hg)
 replace HR:=LH (HR.out.grow hg)
 have HS:=LH hFm
 obtain ⟨ad,rfl⟩:∃ ad,Am=some ad:=by
  obtain ⟨ad,e,_⟩:=SliceR.int_at (k:=.i64) HS.out.now 0 (by have:=(zN HO.out.2).1;omega)
  exact ⟨ad,e⟩
 clear hg hsz hFm
 obtain ⟨hp0,hp1⟩:0≤sum%2∧sum%2<2:=by omega
 by_cases hpar:sum%2=0
 focus
  go_wp2_with fail
  obtain ⟨x,hxs,hxa,hxm,hxq⟩:∃ x:RX,x.s=session∧x.a=a∧x.m=sumP session a∧x.q=1048576:=⟨⟨session,a,sumP session a,1048576⟩,rfl,rfl,rfl,rfl⟩
  have HXM:Hid (x.m<4294967296):=LH (by rw [hxm];exact zcF (n:=0) (by omega) (zbJ _ _))
  rw [← hxm]
  have HM:=LH (heap_alloc_new w2 (.cells #[.int .u64 session,.slice (some ad) (szs a).length cm,.int .u32 (x.m:Nat)] 40))
  have HGM:=LH ((Keep.refl NoB w2).alloc (.cells #[.int .u64 session,.slice (some ad) (szs a).length cm,.int .u32 (x.m:Nat)] 40))
  generalize w2.alloc (.cells #[.int .u64 session,.slice (some ad) (szs a).length cm,.int .u32 (x.m:Nat)] 40)=wM at HM HGM ⊢
  rw [hxm]
  have HSM:Hid (x.m=sumP session a):=LH hxm
  clear hxm hpar
 rotate_left
 focus
  have hpb:(sum%2==0)=false:=beq_eq_false_iff_ne.2 hpar
  go_wp2_with fail
  obtain ⟨x,hxs,hxa,hxm,hxq⟩:∃ x:RX,x.s=session∧x.a=a∧((x.m:Nat):Int)=sum∧x.q=1048576:=⟨⟨session,a,sum.toNat,1048576⟩,rfl,rfl,by simp;omega,rfl⟩
  have HXM:Hid (x.m<4294967296):=LH (by omega)
  rw [← hxm]
  have HM:=LH (heap_alloc_new w2 (.cells #[.int .u64 session,.slice (some ad) (szs a).length cm,.int .u32 (x.m:Nat)] 40))
  have HGM:=LH ((Keep.refl NoB w2).alloc (.cells #[.int .u64 session,.slice (some ad) (szs a).length cm,.int .u32 (x.m:Nat)] 40))
  generalize w2.alloc (.cells #[.int .u64 session,.slice (some ad) (szs a).length cm,.int .u32 (x.m:Nat)] 40)=wM at HM HGM ⊢
  clear hpb hpar hxm
 all_goals
  clear hu0 hu1 hp0 hp1
  obtain ⟨bM,hbM⟩:∃ b,w2.heap.size=b:=⟨_,rfl⟩
  rw [hbM] at HM ⊢
  subst hxs hxa
  have HX:Hid x.Ok:=LH ⟨HS01.out.1,HS01.out.2,HXM.out,HO.out.1,HO.out.2⟩
  have HCF:Hid (OkC (1+k%5) (1+k/16) (1+j%40) x.q):=LH (by constructor <;> omega)
  have HQ:Hid (8*(szs x.a).sum≤x.q):=LH (by have:=HX.out.small;omega)
  replace HR:=LH (HR.out.grow HGM.out)
  replace HS:=LH (HS.out.grow HGM.out)
  replace HG:=LH (HG.out.grow HGM.out)
  clear hbM HGM HXM HS01
  refine (zjF k j _ ⟨hk0,hk1⟩ ⟨hj0,hj1⟩).mono ?_
  rintro e w3 ⟨rfl,hg⟩
  have HG3:=LH hg
  clear hg
  go_wp2_with fail
  refine (zRC w3).mono ?_
  rintro e w4 ⟨st,kk,rfl,hg,hK,hKF,hf,hnt,hlo,hn0⟩
  have hR1:=zPL (x:=x) HCF.out hK hf hnt hlo hn0
  rw [hxq] at hR1
  have HRN:=LH hR1
  have HG4:=LH (HG3.out.grow hg)
  have HKF:=LH (show ∀ j,KF st kk j→wM.heap.size≤j from fun j hj=>Nat.le_trans HG3.out.size (hKF j hj))
  clear hg hK hKF hf hnt hlo hn0 hR1 HG3 hxq
  go_wp2_with fail
  refine HRN.out.mono ?_
  rintro e w5 ⟨g,F0,rfl,hg,hI,hF0,hF1⟩
  have HI:Hid (Grow wM w5∧∃ F,RvI x g st (pgS x 0) F w5∧∀ j,F j→wM.heap.size≤j∧j<w5.heap.size):=LH ⟨HG4.out.grow hg,F0,hI,fun j hj=>⟨(hF0 j hj).elim (fun h=>Nat.le_trans HG4.out.size h) (HKF.out j),hF1 j hj⟩⟩
  clear hg hI hF0 hF1 HRN HKF HG4
  go_wp2
  go_loopw [19] (fun v wr=>∃ i:Nat,i≤x.P∧v=.int .i64 i∧Hid (Grow wM wr∧∃ F,RvI x g st (pgS x i) F wr∧∀ j,F j→wM.heap.size≤j∧j<wr.heap.size)) (fun v _=>x.P-(intOf v).toNat)
  case atStart=>exact ⟨0,by omega,rfl,HI⟩
  case round =>
   clear HI
   obtain ⟨i,hi,rfl,HI⟩:=hrel
   have HM6:=LH (Grow.heap HI.out.1 HM.out)
   obtain ⟨m0,m1,m2,mf⟩:=zI HM6.out
   have hi0:0≤(i:Int):=by omega
   go_wp2_with fail
   refine (zdB x.s x.m (szs x.a) (some ad) cm _ (HS.out.now.grow HI.out.1) HX.out.fit).mono ?_
   rintro e w6 ⟨rfl,hg6⟩
   replace HI:Hid (Grow wM w6∧∃ F,RvI x g st (pgS x i) F w6∧∀ j,F j→wM.heap.size≤j∧j<w6.heap.size):=LH (by
    obtain ⟨h1,F,h2,h3⟩:=HI.out
    exact ⟨h1.grow hg6,F,h2.grow hg6,fun j hj=>⟨(h3 j hj).1,Nat.lt_of_lt_of_le (h3 j hj).2 hg6.size⟩⟩)
   clear hg6 HM6 m0 m1 m2 mf
   have HM6:=LH (Grow.heap HI.out.1 HM.out)
   obtain ⟨m0,m1,m2,mf⟩:=zI HM6.out
   obtain ⟨P,hP⟩:∃ P,pagesN (szs x.a)=P:=⟨_,rfl⟩
   have hxP:x.P=P:=hP
   have HPP:=LH hxP
   rw [hxP] at hi
   rw [hP]
   by_cases hlt:i<P
   ·have hlt':(i:Int)<(P:Nat):=by omega
    have hwi:IntKind.i64.wrap ((i:Int)+1)=(i:Int)+1:=IntWalk.i64_in _ (by have:=HX.out.small;omega)
    clear hP hxP
    go_wp2
    refine zD [0,1,2,3,4,5,7,8,6,9,10,11] [6,9,11] [3,5,7] [11] rfl (by kernel_rfl) ?_
    iterate 3
     refine ord_p ?_
    refine ord_r (y:=by intro w' hg;have q:=hg.cell m2 (fun h=>h);go_simp;with_reducible rfl) (z:=?_)
    refine ord_p ?_
    refine ord_r (y:=by intro w' hg;have q0:=hg.cell m0 (fun h=>h);have q1:=hg.cell m1 (fun h=>h);have q2:=hg.cell m2 (fun h=>h);go_simp;with_reducible rfl) (z:=?_)
    refine ord_r (y:=by intro w' hg;have q0:=hg.cell m0 (fun h=>h);have q1:=hg.cell m1 (fun h=>h);have q2:=hg.cell m2 (fun h=>h);go_simp;with_reducible rfl) (z:=?_)
    refine ord_p ?_
    have hgd:=(Keep.refl NoB w6).drew
    refine zG rfl rfl rfl rfl rfl Tryz.func21 rfl rfl [.agg #[.int .u64 x.s,.slice (some ad) (szs x.a).length cm,.int .u32 (x.m:Nat)]] rfl ?_
    refine (zdB x.s x.m (szs x.a) (some ad) cm _ ((HS.out.now.grow HI.out.1).grow hgd) HX.out.fit).mono ?_
    rintro e w7 ⟨rfl,hg7⟩
    refine ⟨_,rfl,fun _=>hg7,?_⟩
    simp only [Act.put,pB,pC,pD]
    have hgd7:=hgd.grow hg7
    refine zG rfl rfl rfl rfl rfl Tryz.func45 rfl rfl [.agg #[.int .u64 x.s,.slice (some ad) (szs x.a).length cm,.int .u32 (x.m:Nat)],.int .i64 (i:Nat)] rfl ?_
    refine (zsG x.s x.m ad cm (szs x.a) _ ((HS.out.now.grow HI.out.1).grow hgd7) HX.out.fit i (by have:pagesN (szs x.a)=P:=HPP.out;omega)).mono ?_
    rintro e w8 ⟨rfl,hg8⟩
    refine ⟨_,rfl,fun _=>hg8,?_⟩
    simp only [Act.put,pB,pC,pD]
    have hgd8:=hgd7.grow hg8
    refine ord_p ?_
    refine zG rfl rfl rfl rfl rfl Tryz.func39 rfl rfl [.pointer (some ⟨g,0,none⟩),.agg #[.int .i64 1,.int .u64 x.s,.int .i64 (i:Nat),.int .i64 (pagesN (szs x.a):Nat),.int .u32 (x.m:Nat),.slice (some (ad.add (4*i))) (pageP (szs x.a) i).length (cm-4*i),.slice none 0 0]] rfl ?_
    obtain ⟨F,hI,hF⟩:=HI.out.2
    refine (zTK HX.out (fun j hj=>Nat.lt_of_lt_of_le (hF j hj).2 hgd8.size) i (by rw [HPP.out];exact hlt) (some (ad.add (4*i))) (cm-4*i) (zNJ ((HS.out.grow HI.out.1).grow hgd8) i (by have h9:((szs x.a).length+3)/4=P:=HPP.out;omega)) (fun j hj e=>by have:=HS.out.lt hj;have:=(hF j e).1;omega) (hI.grow hgd8)).mono ?_
    rintro e w9 ⟨v,rfl,-,F',hI',hk9,hF',hF2'⟩
    refine ⟨_,rfl,fun h=>absurd (by simp) h,?_⟩
    simp only [Act.put,pB,pC,pD]
    refine zF ?_
    have HN:Hid (Grow wM w9∧∃ F,RvI x g st (pgS x (i+1)) F w9∧∀ j,F j→wM.heap.size≤j∧j<w9.heap.size):=LH ⟨(HI.out.1.grow hgd8).trans hk9 (fun j hj=>.inr (hF j hj).1),F',hI',fun j hj=>⟨(hF' j hj).elim (fun h=>(hF j h).1) (fun h=>Nat.le_trans (HI.out.1.grow hgd8).size h),hF2' j hj⟩⟩
    clear hI hF hI' hk9 hF' hF2' hgd hgd7 hgd8 hg7 hg8 HM6 m0 m1 m2 mf HI
    go_wp2
    go_roundw
    case rel=>exact ⟨i+1,by rw [HPP.out];omega,by go_num,HN⟩
    case measure=>rw [HPP.out];simp [intOf];omega
   ·obtain rfl:i=P:=by omega
    have hlt':¬ ((i:Int)<(i:Nat)):=by omega
    have HC0:Hid (pgS x i=chS x 0):=LH ((zGJ HX.out HQ.out i (by rw [hxP];exact Nat.le_refl _)).2 hxP.symm)
    clear hP hxP
    go_wp2_with fail
    refine (zSE x.s x.m (szs x.a) (some ad) cm _ (HS.out.now.grow HI.out.1) HX.out.fit).mono ?_
    rintro e w7 ⟨rfl,hg7⟩
    replace HI:Hid (Grow wM w7∧∃ F,RvI x g st (chS x 0) F w7∧∀ j,F j→wM.heap.size≤j∧j<w7.heap.size):=LH (by
     obtain ⟨h1,F,h2,h3⟩:=HI.out
     rw [HC0.out] at h2
     exact ⟨h1.grow hg7,F,h2.grow hg7,fun j hj=>⟨(h3 j hj).1,Nat.lt_of_lt_of_le (h3 j hj).2 hg7.size⟩⟩)
    clear hg7 HM6 m0 m1 m2 mf
    obtain ⟨Q,hQ⟩:∃ Q,chunksN (szs x.a)=Q:=⟨_,rfl⟩
    have HQQ:Hid (x.Q=Q):=LH hQ
    rw [hQ]
    clear hQ
    go_wp2
    go_loopw [21,22] (fun vl v wr=>∃ i:Nat,i≤Q∧v=.int .i64 i∧vl=.int .i64 (lenK (failK (chS x i)))∧Hid (Grow wM wr∧∃ F,RvI x g st (chS x i) F wr∧∀ j,F j→wM.heap.size≤j∧j<wr.heap.size)) (fun _ v _=>Q-(intOf v).toNat)
    case atStart=>exact ⟨0,by omega,rfl,rfl,HI⟩
    case round =>
     clear HI hi0 hlt hlt' hi
     obtain ⟨i,hi,rfl,rfl,HI⟩:=hrel
     have hi0:0≤(i:Int):=by omega
     by_cases hlt:i<Q
     ·have hlt':(i:Int)<(Q:Nat):=by omega
      have hwi:IntKind.i64.wrap ((i:Int)+1)=(i:Int)+1:=IntWalk.i64_in _ (by have:=HX.out.small;have:=HQQ.out;omega)
      have HM6:=LH (Grow.heap HI.out.1 HM.out)
      obtain ⟨m0,m1,m2,mf⟩:=zI HM6.out
      go_wp2
      refine zD [0,1,2,3,4,5,6,7,8,9,10,11] [8,10,11] [3] [10] rfl (by kernel_rfl) ?_
      iterate 3
       refine ord_p ?_
      refine ord_r (y:=by intro w' hg;have q:=hg.cell m2 (fun h=>h);go_simp;with_reducible rfl) (z:=?_)
      iterate 4
       refine ord_p ?_
      have hgd:=(Keep.refl NoB wr).drew
      refine zG rfl rfl rfl rfl rfl Tryz.func31 rfl rfl [.slice A1 x.a.length c1,.int .i64 (i:Nat)] rfl ?_
      refine (zCF x.a HX.out.a HX.out.fit HFL.out i (zGK i (by have:chunksN (szs x.a)=Q:=HQQ.out;omega)) A1 c1 _ ((HR.out.grow HI.out.1).grow hgd)).mono ?_
      rintro e w7 ⟨A7,c7,rfl,hg7,hF7⟩
      refine ⟨_,rfl,fun _=>hg7,?_⟩
      simp only [Act.put,pB,pC,pD]
      have hgd7:=hgd.grow hg7
      refine ord_p ?_
      obtain ⟨F,hI,hF⟩:=HI.out.2
      refine zG rfl rfl rfl rfl rfl Tryz.func39 rfl rfl [.pointer (some ⟨g,0,none⟩),.agg #[.int .i64 2,.int .u64 x.s,.int .i64 (i:Nat),.int .i64 (Q:Nat),.int .u32 (x.m:Nat),.slice none 0 0,.slice A7 (chunkP x.a i).length c7]] rfl ?_
      have hrd:=zFL HX.out (fun j hj=>Nat.lt_of_lt_of_le (hF j hj).2 hgd7.size) i (by rw [HQQ.out];exact hlt) A7 c7 hF7 (fun j hj e=>by have:=(hF j e).2;have h9:wr.heap.size≤j:=hj.1;omega) (hI.grow hgd7)
      rw [HQQ.out] at hrd
      refine hrd.mono ?_
      rintro e w9 ⟨v,rfl,hout,F',hI',hk9,hF',hF2'⟩
      rw [zEL HX.out i (by rw [HQQ.out];exact hlt)] at hout
      obtain ⟨Av,nv,cv,rfl,hnv⟩:=hout.len
      refine ⟨_,rfl,fun h=>absurd (by simp) h,?_⟩
      simp only [Act.put,pB,pC,pD]
      refine ord_s ?_
      refine zF ?_
      have HN:Hid (Grow wM w9∧∃ F,RvI x g st (chS x (i+1)) F w9∧∀ j,F j→wM.heap.size≤j∧j<w9.heap.size):=LH ⟨(HI.out.1.grow hgd7).trans hk9 (fun j hj=>.inr (hF j hj).1),F',hI',fun j hj=>⟨(hF' j hj).elim (fun h=>(hF j h).1) (fun h=>Nat.le_trans (HI.out.1.grow hgd7).size h),hF2' j hj⟩⟩
      have HNV:=LH hnv
      clear hI hF hI' hk9 hF' hF2' hgd hgd7 hg7 hF7 hrd hout HM6 m0 m1 m2 mf HI hnv
      go_wp2
      go_roundw
      case rel=>exact ⟨i+1,by omega,by go_num,by rw [HNV.out],HN⟩
      case measure=>simp [intOf];omega
     ·obtain rfl:i=Q:=by omega
      have hlt':¬ ((i:Int)<(i:Nat)):=by omega
      have hend:chS x i=endS x:=(zJG HX.out i (by rw [HQQ.out];exact Nat.le_refl _)).2 HQQ.out.symm
      have HEND:=LH hend
      rw [hend]
      clear hend
      have HM6:=LH (Grow.heap HI.out.1 HM.out)
      obtain ⟨m0,m1,m2,mf⟩:=zI HM6.out
      go_wp2_with fail
      refine (zNG x.a HX.out.a A1 c1 _ (HR.out.grow HI.out.1)).mono ?_
      rintro e w7 ⟨rfl,hg7⟩
      replace HI:Hid (Grow wM w7∧∃ F,RvI x g st (endS x) F w7):=LH (by
       obtain ⟨h1,F,h2,h3⟩:=HI.out
       rw [HEND.out] at h2
       exact ⟨h1.grow hg7,F,h2.grow hg7⟩)
      clear hg7 HM6 m0 m1 m2 mf
      have HM6:=LH (Grow.heap HI.out.1 HM.out)
      obtain ⟨m0,m1,m2,mf⟩:=zI HM6.out
      have hcp:=zqE x.a
      by_cases hm:x.m=sumP x.s x.a
      ·have hmb:(((x.m:Nat):Int) != ((sumP x.s x.a:Nat):Int))=false:=by rw [hm];simp
       have hes:endS x=if checkP x.a=0 then .ready else .fail (checkP x.a).toNat:=by unfold endS;rw [if_pos hm]
       by_cases hc0:checkP x.a=0
       ·rw [if_pos hc0] at hes
        rw [hes] at HI ⊢
        rw [hc0]
        clear hm hcp hes hc0 HEND
        go_wp2_with fail
        refine (zFD (HI.out.2.choose_spec)).mono ?_
        rintro e w8 ⟨⟨sa,sb,rfl⟩,hg8⟩
        replace HI:Hid (Grow wM w8∧∃ F,RvI x g st .ready F w8):=LH (by obtain ⟨h1,F,h2⟩:=HI.out;exact ⟨h1.grow hg8,F,h2.grow hg8⟩)
        clear hg8 HM6 m0 m1 m2 mf
        have hz:=heap_alloc_new w8 (.cells #[.int .i64 2,.int .u16 0,.int .i64 sa,.int .i64 sb] 48)
        have hga:=(Keep.refl NoB w8).alloc (.cells #[.int .i64 2,.int .u16 0,.int .i64 sa,.int .i64 sb] 48)
        have HZ:=LH hz
        replace HI:Hid (Grow wM (w8.alloc (.cells #[.int .i64 2,.int .u16 0,.int .i64 sa,.int .i64 sb] 48))∧∃ F,RvI x g st .ready F (w8.alloc (.cells #[.int .i64 2,.int .u16 0,.int .i64 sa,.int .i64 sb] 48))):=LH (by obtain ⟨h1,F,h2⟩:=HI.out;exact ⟨h1.grow hga,F,h2.grow hga⟩)
        clear hz hga
        try simp only [phaseS,errS]
        go_wp2_with fail
        refine (zlD HX.out (HI.out.2.choose_spec)).mono ?_
        rintro e w9 ⟨hg9,⟨-,Ab,cb,rfl,-⟩ | ⟨hno,-⟩⟩
        rotate_left
        ·exact absurd rfl hno
        have HGW:=LH ((HG.out.grow HI.out.1).grow hg9)
        replace HZ:=LH (Grow.heap hg9 HZ.out)
        clear hg9 HI
        go_wp2_with fail
        refine (zPB _).mono ?_
        rintro e w10 ⟨rfl,hg10⟩
        replace HGW:=LH (HGW.out.grow hg10)
        replace HZ:=LH (Grow.heap hg10 HZ.out)
        clear hg10
        obtain ⟨z0,z1,z2,z3,zf⟩:=zKA HZ.out
        go_wp2
        go_ret
        exact ⟨rfl,HGW.out⟩
       ·rw [if_neg hc0] at hes
        rw [hes] at HI ⊢
        obtain ⟨ec,hec⟩:∃ ec:Nat,checkP x.a=ec:=⟨(checkP x.a).toNat,by omega⟩
        rw [hec] at HI hc0 hcp ⊢
        have hec1:¬ (ec:Int)=0:=hc0
        have hec2:(ec:Int)≤29:=hcp.2
        have hec3:0≤(ec:Int):=hcp.1
        have hec4:(ec:Int)≤65535:=by omega
        have hw16:IntKind.i64.wrap (ec:Int)=(ec:Int):=IntWalk.i64_in _ (by omega)
        clear hm hcp hes hc0 HEND hec
        simp only [Int.toNat_natCast] at HI ⊢
        go_wp2_with fail
        refine (zFD (HI.out.2.choose_spec)).mono ?_
        rintro e w8 ⟨⟨sa,sb,rfl⟩,hg8⟩
        replace HI:Hid (Grow wM w8∧∃ F,RvI x g st (.fail ec) F w8):=LH (by obtain ⟨h1,F,h2⟩:=HI.out;exact ⟨h1.grow hg8,F,h2.grow hg8⟩)
        clear hg8 HM6 m0 m1 m2 mf
        have hz:=heap_alloc_new w8 (.cells #[.int .i64 3,.int .u16 ec,.int .i64 sa,.int .i64 sb] 48)
        have hga:=(Keep.refl NoB w8).alloc (.cells #[.int .i64 3,.int .u16 ec,.int .i64 sa,.int .i64 sb] 48)
        have HZ:=LH hz
        replace HI:Hid (Grow wM (w8.alloc (.cells #[.int .i64 3,.int .u16 ec,.int .i64 sa,.int .i64 sb] 48))∧∃ F,RvI x g st (.fail ec) F (w8.alloc (.cells #[.int .i64 3,.int .u16 ec,.int .i64 sa,.int .i64 sb] 48))):=LH (by obtain ⟨h1,F,h2⟩:=HI.out;exact ⟨h1.grow hga,F,h2.grow hga⟩)
        clear hz hga
        try simp only [phaseS,errS]
        go_wp2_with fail
        refine (zlD HX.out (HI.out.2.choose_spec)).mono ?_
        rintro e w9 ⟨hg9,⟨hno,-⟩ | ⟨-,rfl⟩⟩
        ·cases hno
        have HGW:=LH ((HG.out.grow HI.out.1).grow hg9)
        replace HZ:=LH (Grow.heap hg9 HZ.out)
        clear hg9 HI
        go_wp2_with fail
        refine (zPB _).mono ?_
        rintro e w10 ⟨rfl,hg10⟩
        replace HGW:=LH (HGW.out.grow hg10)
        replace HZ:=LH (Grow.heap hg10 HZ.out)
        clear hg10
        obtain ⟨z0,z1,z2,z3,zf⟩:=zKA HZ.out
        go_wp2
        go_ret
        refine ⟨?_,HGW.out⟩
        show Ending.returned (.bool _)=_
        simp [hw16]
        omega
      ·have hmb:(((x.m:Nat):Int) != ((sumP x.s x.a:Nat):Int))=true:=by rw [bne_iff_ne];omega
       have hes:endS x=.fail 12:=by unfold endS;rw [if_neg hm]
       rw [hes] at HI ⊢
       generalize checkP x.a=ck at hcp ⊢
       clear hm hes HEND
       go_wp2_with fail
       refine (zFD (HI.out.2.choose_spec)).mono ?_
       rintro e w8 ⟨⟨sa,sb,rfl⟩,hg8⟩
       replace HI:Hid (Grow wM w8∧∃ F,RvI x g st (.fail 12) F w8):=LH (by obtain ⟨h1,F,h2⟩:=HI.out;exact ⟨h1.grow hg8,F,h2.grow hg8⟩)
       clear hg8 HM6 m0 m1 m2 mf
       have hz:=heap_alloc_new w8 (.cells #[.int .i64 3,.int .u16 12,.int .i64 sa,.int .i64 sb] 48)
       have hga:=(Keep.refl NoB w8).alloc (.cells #[.int .i64 3,.int .u16 12,.int .i64 sa,.int .i64 sb] 48)
       have HZ:=LH hz
       replace HI:Hid (Grow wM (w8.alloc (.cells #[.int .i64 3,.int .u16 12,.int .i64 sa,.int .i64 sb] 48))∧∃ F,RvI x g st (.fail 12) F (w8.alloc (.cells #[.int .i64 3,.int .u16 12,.int .i64 sa,.int .i64 sb] 48))):=LH (by obtain ⟨h1,F,h2⟩:=HI.out;exact ⟨h1.grow hga,F,h2.grow hga⟩)
       clear hz hga
       try simp only [phaseS,errS]
       go_wp2_with fail
       refine (zlD HX.out (HI.out.2.choose_spec)).mono ?_
       rintro e w9 ⟨hg9,⟨hno,-⟩ | ⟨-,rfl⟩⟩
       ·cases hno
       have HGW:=LH ((HG.out.grow HI.out.1).grow hg9)
       replace HZ:=LH (Grow.heap hg9 HZ.out)
       clear hg9 HI
       go_wp2_with fail
       refine (zPB _).mono ?_
       rintro e w10 ⟨rfl,hg10⟩
       replace HGW:=LH (HGW.out.grow hg10)
       replace HZ:=LH (Grow.heap hg10 HZ.out)
       clear hg10
       obtain ⟨z0,z1,z2,z3,zf⟩:=zKA HZ.out
       go_wp2
       go_ret
       exact ⟨rfl,HGW.out⟩
end Go.Proofs.YtfkcpaahdlkcdaaGreat
namespace Go.Proofs.YtfkcpaahdlkcdaaGreat
open Go.ChangeShapes Go.WideShapes Go.ChangeAt Go.RowKit
open Go.Deep (intRow boolRow open_int_rows open_bools)
theorem SliceR.take {A:Option Addr} {n c m:Nat} {l:List Int} {w:World} (h:SliceR 1 (.slice A n c) n (u8s l) w) (hm:m≤n):SliceR 1 (.slice A m c) m (u8s (l.take m)) w:=by
 obtain ⟨A',c',e,h1,h2,h3,h4⟩:=h
 injection e with e1 e2 e3
 subst e1
 subst e3
 have hl:l.length=n:=by simpa using h2
 refine ⟨A,c,rfl,by omega,by simp;omega,h3,fun j u hu=>h4 j u ?_⟩
 rw [u8s,List.map_take,List.getElem?_take] at hu
 split at hu
 ·exact hu
 ·cases hu
theorem SliceR.cell {A:Option Addr} {n c:Nat} {vs:List Value} {w:World} (h:SliceR 1 (.slice A n c) n vs w) (i:Nat) (hi:i<vs.length):∃ ad,A=some ad∧w.cell? (ad.add i)=some vs[i]:=by
 obtain ⟨A',c',e,h1,h2,h3,h4⟩:=h
 injection e with e1 e2 e3
 subst e1
 exact h4 i _ (List.getElem?_eq_getElem hi)
theorem arg_ints {H:Type} {enc:TypeId×Value→H} {W:World} {held:Bool} {a:Option Addr} {len cap:Nat} {d:DataW H} {ps:List MemPlace} {ts:List TypeId} {ds:List (DataW H)} {j t e B:Nat} {k:IntKind}
    (hu:Tryz.prog.underlying t=some (.slice e)) (he:Tryz.prog.underlying e=some (.int k)) (hc1:Tryz.prog.cellsOf e=1) (hB:Tryz.prog.bytesOf e=B)
    (hsz:(DataW.weightsEach Tryz.prog ts ds).all (· ≤ reachBytes)=true) (ht:ts[j]? = some t) (hd:ds[j]? = some d)
    (h:DataW.Trod enc Tryz.prog W 0 (fun _=>true) held t (.slice a len cap) d ps) :
    ∃ l:List Int,SliceR 1 (.slice a l.length cap) l.length (l.map (Value.int k)) W∧l.length=len∧cap≤maxLen∧l.length*B≤140737488351232∧∀ x∈l,(Lit.int k x).wf=true:=by
 obtain ⟨fuel,hf⟩:=h
 rcases open_ints hu he hc1 hf with ⟨hcs,_⟩ | ⟨x,l,c,zs,hcs,_,hl,hm,hz,hx,hcell,hwz⟩
 ·simp [Value.cells] at hcs
  obtain ⟨rfl,rfl,rfl⟩:=hcs
  exact ⟨[],⟨none,0,rfl,Nat.le_refl _,rfl,fun _=>rfl,fun j u hu=>by simp at hu⟩,rfl,Nat.zero_le _,by simp,fun x hx=>by cases hx⟩
 ·simp [Value.cells] at hcs
  obtain ⟨rfl,rfl,rfl⟩:=hcs
  have hz':zs.length=cap:=by simpa using hz
  have hlen:(zs.take len).length=len:=by rw [List.length_take];omega
  obtain ⟨hx,_⟩:=Prod.mk.inj hx
  subst hx
  have z:=sized_slice hsz ht hd hu
  rw [hB] at z
  have h1:(lits (H:=H) k (zs.take len)).length+(lits (H:=H) k (zs.drop len)).length=zs.length:=by
   simp [lits]
   omega
  rw [h1] at z
  have h10:reachBytes=140737488351232:=by decide
  refine ⟨zs.take len,?_,hlen,hm,?_,fun x hx=>hwz x (List.mem_of_mem_take hx)⟩
  ·rw [hlen]
   refine ⟨some x,cap,rfl,hl,by simp;omega,(fun e=>by cases e),fun j u hu=>⟨x,rfl,?_⟩⟩
   have hj:j<len:=by
    rcases Nat.lt_or_ge j len with h | h
    ·exact h
    ·rw [List.getElem?_eq_none (by simp;omega)] at hu;cases hu
   rw [hcell j (by omega)]
   rw [List.getElem?_map,List.getElem?_take,if_pos hj] at hu
   rw [List.getD_eq_getElem?_getD]
   rw [List.getElem?_eq_getElem (by omega)] at hu ⊢
   simpa using hu
  ·rw [hlen,← h10]
   exact Nat.le_trans (Nat.mul_le_mul_right _ (by omega)) z
end Go.Proofs.YtfkcpaahdlkcdaaGreat

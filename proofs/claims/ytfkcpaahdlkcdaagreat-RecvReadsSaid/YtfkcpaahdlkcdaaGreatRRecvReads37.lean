import Derived.Test.YtfkcpaahdlkcdaaGreatRRecvReads36
set_option linter.unusedSimpArgs false
set_option linter.unusedVariables false
set_option maxRecDepth 100000
set_option maxHeartbeats 16000000
namespace Go.Proofs.YtfkcpaahdlkcdaaGreat
open Go.RowKit
theorem zcG (a:List (List Int)) (ho:OkA a) (A:Option Addr) (c:Nat) (w:World) (h:RowsR .u64 a (.slice A a.length c) w) (o:Ob) (hi:ObIn o) (k:Int) (hk0:0≤k) (hk1:k≤1000000):Calls Tryz.prog 229 #[.agg #[.slice A a.length c,qL,qI],.agg o,.int .i64 k] w fun e w'=>e=.returned (.tuple #[.int .u64 (wordP (wordA a) o k).1,.int .i64 (wordP (wordA a) o k).2])∧Grow w w':=by
 obtain ⟨h3,h4,hgc⟩:=zU w (.cells #[.slice A a.length c,qL,qI] 186) (.cells o 257)
 obtain ⟨f1,f2,f3⟩:=hi.few
 have ha0:=hi.at0
 have hw1:IntKind.i64.wrap (o.at_+k)=o.at_+k:=IntWalk.i64_in _ (by omega)
 have HG:=LH hgc
 have HV:=LH (zi ho).val
 obtain ⟨m0,m1,m2,mf⟩:=zI h3
 obtain ⟨d0,d1,d2,d3,d4,d5,d6,df⟩:=zC h4
 have HW:=LH (fun at_=>zqA a ho A c _ (h.grow hgc) o.seg at_)
 have E:Hid (wordP (wordA a) o k=if o.kind=0∨(o.kind=1∧o.data≤k) then (0,0) else if o.kind=1 then wordA a o.seg (o.at_+k) else if o.size=6 then (0,23) else if o.count≤k then (0,20) else if o.size=5 then wordA a o.seg (o.at_+k) else (byteI (wordA a o.seg (o.at_+k/8)).1 k,(wordA a o.seg (o.at_+k/8)).2)):=LH rfl
 clear h ho hgc h3 h4 hi
 rcases f3 with h0 | h0 | h0
 ·have kb:(o.kind==0)=true:=by rw [h0];rfl
  rw [if_pos (.inl h0)] at E
  clear h0
  go_enter Tryz.func229,Tryz.ntmps229
  go_wp2
  go_ret2
  exact ⟨by rw [E.out];rfl,HG.out⟩
 ·have kb:(o.kind==0)=false:=by rw [h0];rfl
  have kb1:(o.kind==1)=true:=by rw [h0];rfl
  by_cases hp:o.data≤k
  ·rw [if_pos (.inr ⟨h0,hp⟩)] at E
   clear h0
   go_enter Tryz.func229,Tryz.ntmps229
   go_wp2
   go_ret2
   exact ⟨by rw [E.out];rfl,HG.out⟩
  ·rw [if_neg (by omega),if_pos h0] at E
   clear h0
   go_enter Tryz.func229,Tryz.ntmps229
   go_wp2_with fail
   refine (HW.out (o.at_+k)).mono ?_
   rintro e w1 ⟨rfl,hg⟩
   replace HG:=LH (HG.out.grow hg)
   clear hg HW m0 m1 m2 mf d0 d1 d2 d3 d4 d5 d6 df
   go_wp2
   go_ret2
   exact ⟨by rw [E.out];rfl,HG.out⟩
 ·have kb : (o.kind == 0) = false := by rw [h0]; rfl
  have kb1:(o.kind==1)=false:=by rw [h0];rfl
  rw [if_neg (by omega),if_neg (by omega)] at E
  clear h0
  by_cases hs:o.size=6
  ·have hsb:(o.size==6)=true:=by rw [hs];rfl
   rw [if_pos hs] at E
   clear hs
   go_enter Tryz.func229,Tryz.ntmps229
   go_wp2
   go_ret2
   exact ⟨by rw [E.out];rfl,HG.out⟩
  ·have hsb:(o.size==6)=false:=beq_eq_false_iff_ne.2 hs
   rw [if_neg hs] at E
   clear hs
   by_cases hc:o.count≤k
   ·rw [if_pos hc] at E
    go_enter Tryz.func229,Tryz.ntmps229
    go_wp2
    go_ret2
    exact ⟨by rw [E.out];rfl,HG.out⟩
   ·rw [if_neg hc] at E
    by_cases h5:o.size=5
    ·have h5b:(o.size==5)=true:=by rw [h5];rfl
     rw [if_pos h5] at E
     clear h5 hsb
     go_enter Tryz.func229,Tryz.ntmps229
     go_wp2_with fail
     refine (HW.out (o.at_+k)).mono ?_
     rintro e w1 ⟨rfl,hg⟩
     replace HG:=LH (HG.out.grow hg)
     clear hg HW m0 m1 m2 mf d0 d1 d2 d3 d4 d5 d6 df
     go_wp2
     go_ret2
     exact ⟨by rw [E.out];rfl,HG.out⟩
    ·have h5b:(o.size==5)=false:=beq_eq_false_iff_ne.2 h5
     rw [if_neg h5] at E
     clear h5
     obtain ⟨qq,hqq⟩:∃ qq,k/8=qq:=⟨_,rfl⟩
     obtain ⟨rr,hrr⟩:∃ rr:Nat,k%8=(rr:Int):=⟨(k%8).toNat,by omega⟩
     have hr7:rr≤7:=by omega
     have hqt:k.tdiv 8=qq:=by rw [Int.tdiv_eq_ediv_of_nonneg hk0];exact hqq
     have hrt:k.tmod 8=(rr:Int):=by rw [Int.tmod_eq_emod_of_nonneg hk0];exact hrr
     have hq0:0≤qq:=by omega
     have hq1:qq≤1000000:=by omega
     have hwq:IntKind.i64.wrap qq=qq:=IntWalk.i64_in _ (by omega)
     have hwr:IntKind.i64.wrap (rr:Int)=(rr:Int):=IntWalk.i64_in _ (by omega)
     have hw3:IntKind.i64.wrap (o.at_+qq)=o.at_+qq:=IntWalk.i64_in _ (by omega)
     have hv:=HV.out o.seg (o.at_+qq)
     rw [hqq] at E
     have EB:Hid (byteI (wordA a o.seg (o.at_+qq)).1 k=(wordA a o.seg (o.at_+qq)).1/2 ^ (8*rr)%256):=LH (by unfold byteI;rw [hrr,show (8*(rr:Int)).toNat=8*rr by omega])
     have HWQ:=LH (HW.out (o.at_+qq))
     obtain ⟨xw,hxw⟩:∃ xw,wordA a o.seg (o.at_+qq)=xw:=⟨_,rfl⟩
     rw [hxw] at E EB HWQ hv
     have HV2:=LH hv
     clear hv hxw HW HV
     go_enter Tryz.func229,Tryz.ntmps229
     go_wp2_with fail
     refine HWQ.out.mono ?_
     rintro e w1 ⟨rfl,hg⟩
     replace HG:=LH (HG.out.grow hg)
     clear hg HWQ m0 m1 m2 mf d0 d1 d2 d3 d4 d5 d6 df
     go_wp2
     go_loopw [12,14] (fun vx v wr=>wr=w1∧∃ i:Nat,i≤rr∧v=.int .i64 i∧vx=.int .u64 (xw.1/2 ^ (8*i))) (fun _ v _=>rr-(intOf v).toNat)
     case atStart=>exact ⟨rfl,0,by omega,rfl,by simp⟩
     case round =>
      obtain ⟨rfl,i,hi,rfl,rfl⟩:=hrel
      have hy0:0≤xw.1/2 ^ (8*i):=Int.ediv_nonneg HV2.out.1 (Int.le_of_lt (Int.pow_pos (by omega)))
      have hy1:xw.1/2 ^ (8*i)≤18446744073709551615:=Int.le_trans (Int.ediv_le_self _ HV2.out.1) HV2.out.2
      have hys:xw.1/2 ^ (8*i)/256=xw.1/2 ^ (8*(i+1)):=by
       rw [Int.ediv_ediv_of_nonneg (Int.le_of_lt (Int.pow_pos (by omega))),show 8*(i+1)=8*i+8 by omega,Int.pow_add]
       rfl
      by_cases hlt:i<rr
      ·have hlt':(i:Int)<(rr:Int):=by omega
       have hwi:IntKind.i64.wrap ((i:Int)+1)=(i:Int)+1:=IntWalk.i64_in _ (by omega)
       have HYS:=LH hys
       clear hys
       generalize xw.1/2 ^ (8*i)=y at *
       have hyt:y.tdiv 256=y/256:=Int.tdiv_eq_ediv_of_nonneg hy0
       have hyw:IntKind.u64.wrap (y/256)=y/256:=IntWalk.u64_in _ (by omega)
       go_wp2
       go_roundw
       case rel=>exact ⟨trivial,i+1,by omega,by go_num,by rw [← HYS.out]⟩
       case measure=>simp [intOf];omega
      ·obtain rfl:i=rr:=by omega
       have hlt':¬ ((i:Int)<(i:Nat)):=by omega
       clear hys
       generalize xw.1/2 ^ (8*i)=y at *
       have hyt:y.tmod 256=y%256:=Int.tmod_eq_emod_of_nonneg hy0
       have hyw:IntKind.u64.wrap (y%256)=y%256:=IntWalk.u64_in _ (by omega)
       go_wp2
       go_ret2
       exact ⟨by rw [E.out,EB.out];rfl,HG.out⟩
def QVPost (r:Vw×Int) (w:World) (e:Ending) (w':World):Prop:=e=.returned (.tuple #[.agg r.1,.int .i64 r.2])∧Grow w w'
theorem zdG (a:List (List Int)) (ho:OkA a) (A:Option Addr) (c:Nat) (w:World) (h:RowsR .u64 a (.slice A a.length c) w) (o:Ob) (hi:ObIn o) (k:Int) (hk0 : -1000000≤k) (hk1:k≤1000000):Calls Tryz.prog 176 #[.agg #[.slice A a.length c,qL,qI],.agg o,.int .i64 k] w (QVPost (endP (wordA a) o k) w):=by
 obtain ⟨h3,h4,h5,hgc⟩:=zmE w (.cells #[.slice A a.length c,qL,qI] 186) (.cells o 257) (.cells qC 86)
 obtain ⟨f1,f2,f3⟩:=hi.few
 have HZ:=LH h5
 have HO:=LH h4
 have HG:=LH hgc
 obtain ⟨m0,m1,m2,mf⟩:=zI h3
 obtain ⟨d0,d1,d2,d3,d4,d5,d6,df⟩:=zC h4
 have HW:=LH (fun h9=>zcG a ho A c _ (h.grow hgc) o hi k h9 hk1)
 have E:Hid (endP (wordA a) o k=if k<0 then (isW o,0) else if (wordP (wordA a) o k).2=0 then (⟨o.kind,0,0,0,(wordP (wordA a) o k).1⟩,0) else (vw0,(wordP (wordA a) o k).2)):=LH rfl
 clear h ho hgc h3 h4 h5 hi
 by_cases hk:0≤k
 ·rw [if_neg (by omega)] at E
  go_enter Tryz.func176,Tryz.ntmps176
  go_wp2_with fail
  refine (HW.out hk).mono ?_
  rintro e w1 ⟨rfl,hg⟩
  replace HZ:=LH (Grow.heap hg HZ.out)
  replace HO:=LH (Grow.heap hg HO.out)
  replace HG:=LH (HG.out.grow hg)
  clear hg HW m0 m1 m2 mf d0 d1 d2 d3 d4 d5 d6 df
  obtain ⟨xw,hxw⟩:∃ xw,wordP (wordA a) o k=xw:=⟨_,rfl⟩
  rw [hxw] at E ⊢
  clear hxw
  by_cases he:xw.2=0
  ·have heb:(xw.2 != 0)=false:=by simp [he]
   rw [if_pos he] at E
   obtain ⟨d0,d1,d2,d3,d4,d5,d6,df⟩:=zC HO.out
   clear he
   obtain ⟨y0,y1,y2,y3,y4,yf⟩:=zA HZ.out
   go_wp2
   refine ret5 HG.out (by omega) HZ.out (fun w' z0 z1 z2 z3 z4 zf=>?_) rfl (fun w' hg=>⟨by rw [E.out],hg⟩)
   rw [results_cell_tmp rfl];go_simp
  ·have heb:(xw.2 != 0)=true:=by simp [he]
   rw [if_neg he] at E
   clear he
   obtain ⟨y0,y1,y2,y3,y4,yf⟩:=zA HZ.out
   go_wp2
   refine ret5 HG.out (by omega) HZ.out (fun w' z0 z1 z2 z3 z4 zf=>?_) rfl (fun w' hg=>⟨by rw [E.out];rfl,hg⟩)
   rw [results_cell_tmp rfl];go_simp
 ·rw [if_pos (by omega)] at E
  have hk':¬ 0≤k:=hk
  clear HW m0 m1 m2 mf
  rcases h2:(o.kind==2) with _ | _
  ·have hk:¬ o.kind=2:=by simpa using h2
   replace E:Hid (endP (wordA a) o k=(⟨o.kind,o.size,o.data,o.ptrs,0⟩,0)):=LH (by rw [E.out];unfold isW;rw [if_neg (fun h=>hk h.1),if_neg (fun h=>hk h.1)])
   clear hk
   go_enter Tryz.func176,Tryz.ntmps176
   go_wp2
   refine bodyPost_ret (v:=.tuple #[.agg #[o.kind,o.size,.int .i64 o.data,.int .i64 o.ptrs,qN],.int .i64 0]) ?_ rfl ⟨by rw [E.out],((((Keep.refl NoB w).alloc _).alloc _).alloc _).alloc _⟩
   rw [results_cell_tmp rfl];go_simp
  ·have hk:o.kind=2:=by simpa using h2
   rcases h6:(o.size==6) with _ | _
   ·have hs:¬ o.size=6:=by simpa using h6
    replace E:Hid (endP (wordA a) o k=(⟨o.kind,o.size,o.count,o.ptrs,0⟩,0)):=LH (by rw [E.out];unfold isW;rw [if_pos ⟨hk,hs⟩,if_neg (fun h=>hs h.2)])
    clear hk hs
    go_enter Tryz.func176,Tryz.ntmps176
    go_wp2
    refine bodyPost_ret (v:=.tuple #[.agg #[o.kind,o.size,.int .i64 o.count,.int .i64 o.ptrs,qN],.int .i64 0]) ?_ rfl ⟨by rw [E.out],((((Keep.refl NoB w).alloc _).alloc _).alloc _).alloc _⟩
    rw [results_cell_tmp rfl];go_simp
   ·have hs:o.size=6:=by simpa using h6
    replace E:Hid (endP (wordA a) o k=(⟨o.kind,o.size,o.data,o.count,0⟩,0)):=LH (by rw [E.out];unfold isW;rw [if_neg (fun h=>h.2 hs),if_pos ⟨hk,hs⟩])
    clear hk hs
    go_enter Tryz.func176,Tryz.ntmps176
    go_wp2
    refine bodyPost_ret (v:=.tuple #[.agg #[o.kind,o.size,.int .i64 o.data,.int .i64 o.count,qN],.int .i64 0]) ?_ rfl ⟨by rw [E.out],((((Keep.refl NoB w).alloc _).alloc _).alloc _).alloc _⟩
    rw [results_cell_tmp rfl];go_simp
theorem zVA {w:World} {g T:Nat} {a0 a1:Value} (h:w.heap[g]? = some (.cells #[a0,a1] T (0,0))):w.cell? ⟨g,0,none⟩=some a0∧w.cell? ⟨g,1,none⟩=some a1∧∀ o,w.frozen? ⟨g,o,none⟩=false :=
 ⟨World.news_of_block h 0 _ rfl,World.news_of_block h 1 _ rfl,fun o=>zN o h⟩
def finW (wd:Int→Int→Int×Int) (at_:Int) (r:Ob×Int):Vw×Int:=if r.2=0 then endP wd r.1 at_ else (vw0,r.2)
theorem zRD (sz:List Int) (wd:Int→Int→Int×Int) (st:List Int) (at_ cost:Int):walkP sz wd st at_ cost=if (followP sz wd 0 0).2=0 then finW wd at_ (goP sz wd st (followP sz wd 0 0).1 cost) else (vw0,(followP sz wd 0 0).2):=rfl
structure WkI (sz:List Int) (wd:Int→Int→Int×Int) (st:List Int) (at_:Int) (T:Vw×Int) (i:Nat) (o:Ob) (e paid:Int):Prop where
 ii:i≤st.length+1
 oo:ObIn o
 p0:0≤paid
 p1:paid≤8192
 go:i≤st.length→e=0→T=finW wd at_ (goP sz wd (st.drop i) o (8192-paid))
 no:e≠0→i≤st.length∧T=(vw0,e)
 fin:i=st.length+1→e=0∧T=endP wd o at_
theorem zTL {sz:List Int} {wd:Int→Int→Int×Int} (h:SouOk sz wd) (o:Ob) (k:Int):ObIn (stepR sz wd o k).1:=by
 unfold stepR
 repeat' split
 all_goals first | exact zjA | exact zd h _ _
theorem WkI.first {sz:List Int} {wd:Int→Int→Int×Int} (h:SouOk sz wd) (st:List Int) (at_:Int):WkI sz wd st at_ (walkP sz wd st at_ 8192) 0 (followP sz wd 0 0).1 (followP sz wd 0 0).2 0:=by
 refine ⟨by omega,zd h 0 0,by omega,by omega,fun _ he=>?_,fun he=>⟨by omega,?_⟩,fun hi=>by omega⟩
 ·rw [zRD,if_pos he];rfl
 ·rw [zRD,if_neg he]
theorem WkI.over {sz:List Int} {wd:Int→Int→Int×Int} {st:List Int} {at_:Int} {T:Vw×Int} {i:Nat} {o:Ob} {paid:Int} (h:WkI sz wd st at_ T i o 0 paid) (hi:i≤st.length) (hp:8192<paid+(1+obWords o)):T=(vw0,22):=by
 have hn:payP (8192-paid) o<0:=by unfold payP;omega
 rw [h.go hi rfl]
 cases st.drop i with
 | nil=>simp only [goP,errP,if_pos hn];rfl
 | cons k ks=>simp only [goP,if_pos hn];rfl
theorem WkI.next {sz:List Int} {wd:Int→Int→Int×Int} (hs:SouOk sz wd) {st:List Int} {at_:Int} {T:Vw×Int} {i:Nat} {o:Ob} {paid:Int} (h:WkI sz wd st at_ T i o 0 paid) (hi:i<st.length) (hp:¬ 8192<paid+(1+obWords o)):WkI sz wd st at_ T (i+1) (stepR sz wd o st[i]).1 (stepR sz wd o st[i]).2 (paid+(1+obWords o)):=by
 have hb:=za h.oo
 have hn:¬ payP (8192-paid) o<0:=by unfold payP;omega
 have hT:=h.go (by omega) rfl
 obtain ⟨e1,e2⟩:=zSL sz wd o st[i]
 rw [List.drop_eq_getElem_cons hi] at hT
 simp only [goP,if_neg hn] at hT
 have hpe:payP (8192-paid) o=8192-(paid+(1+obWords o)):=by unfold payP;omega
 refine ⟨by omega,zTL hs o _,by have:=h.p0;omega,by omega,fun _ he=>?_,fun he=>⟨by omega,?_⟩,fun hi2=>by omega⟩
 ·rw [e1] at he
  rw [hT,if_pos he,hpe,e2 he]
 ·rw [e1] at he ⊢
  rw [hT,if_neg he]
  unfold finW
  rw [if_neg he]
theorem WkI.last {sz:List Int} {wd:Int→Int→Int×Int} {st:List Int} {at_:Int} {T:Vw×Int} {o:Ob} {paid:Int} (h:WkI sz wd st at_ T st.length o 0 paid) (hp:¬ 8192<paid+(1+obWords o)):WkI sz wd st at_ T (st.length+1) o 0 (paid+(1+obWords o)):=by
 have hb:=za h.oo
 have hn:¬ payP (8192-paid) o<0:=by unfold payP;omega
 refine ⟨by omega,h.oo,by have:=h.p0;omega,by omega,fun hi=>by omega,fun he=>absurd rfl he,fun _=>⟨rfl,?_⟩⟩
 rw [h.go (Nat.le_refl _) rfl,List.drop_length]
 simp only [goP,errP,if_neg hn]
 rfl
theorem zUH (a : List (List Int)) (ho : OkA a) (A : Option Addr) (c : Nat) (w : World) (h : RowsR .u64 a (.slice A a.length c) w) (A2 : Option Addr) (c2 : Nat) (st : List Int) (hst : SliceR 1 (.slice A2 st.length c2) st.length (ints st) w) (hk : ∀ k ∈ st, 0 ≤ k ∧ k ≤ 1000000) (hl : st.length ≤ 32) (at_ : Int) (ha : -1000000 ≤ at_ ∧ at_ ≤ 1000000) : Calls Tryz.prog 108 #[.agg #[.slice A a.length c, .bool false, .slice none 0 0], .agg #[.slice A2 st.length c2, .int .i64 at_], .int .i64 8192] w (QVPost (walkP (szs a) (wordA a) st at_ 8192) w) := by
 obtain ⟨h3,h4,h5,hgc⟩:=zmE w (.cells #[.slice A a.length c,qL,qI] 186) (.cells #[.slice A2 st.length c2,.int .i64 at_] 83) (.cells qC 86)
 obtain ⟨wB,hwB⟩:∃ wB,((w.alloc (.cells #[.slice A a.length c,qL,qI] 186)).alloc (.cells #[.slice A2 st.length c2,.int .i64 at_] 83)).alloc (.cells qC 86)=wB:=⟨_,rfl⟩
 rw [hwB] at h3 h4 h5 hgc
 have HS:=LH h3
 have HP:=LH h4
 have HZ:=LH h5
 have HG:=LH hgc
 have H:=LH (h.grow hgc)
 have HT:=LH (hst.grow hgc)
 have HA:=LH ho
 have HK:=LH hk
 have HAT:=LH ha
 have HSO:=LH (zi ho)
 obtain ⟨TT,hTT⟩:∃ TT,walkP (szs a) (wordA a) st at_ 8192=TT:=⟨_,rfl⟩
 have HW0:=LH (WkI.first (zi ho) st at_)
 rw [hTT] at HW0 ⊢
 obtain ⟨p0,p1,pf⟩:=zVA h4
 obtain ⟨m0,m1,m2,mf⟩:=zI h3
 clear h ho hst hk ha h3 h4 h5 hgc hTT
 go_enter Tryz.func108,Tryz.ntmps108
 go_wp2
 try rw [hwB]
 clear hwB
 go_loopw [8] (fun v wr=>wr=wB∧∃ i:Nat,i≤st.length∧v=.int .i64 i) (fun v _=>st.length-(intOf v).toNat)
 case atStart=>exact ⟨rfl,0,by omega,rfl⟩
 case round =>
  obtain ⟨rfl,i,hi,rfl⟩:=hrel
  by_cases hlt:i<st.length
  ·have hlt':(i:Int)<st.length:=by omega
   have hwi:IntKind.i64.wrap ((i:Int)+1)=(i:Int)+1:=IntWalk.i64_in _ (by omega)
   have hi0:0≤(i:Int):=by omega
   obtain ⟨ad,rfl,q0⟩:=SliceR.int_at (k:=.i64) HT.out i hlt
   have hk0:¬ st[i]<0:=by have:=(HK.out _ (List.getElem_mem hlt)).1;omega
   generalize st[i]=ki at q0 hk0
   go_wp2
   go_roundw
   case rel=>exact ⟨trivial,i+1,by omega,by go_num⟩
   case measure=>simp [intOf];omega
  ·obtain rfl : i = st.length := by omega
   have hlt':¬ ((st.length:Int)<st.length):=by omega
   have h32:¬ ((32:Int)<st.length):=by omega
   go_wp2_with fail
   refine (zJA a HA.out A c _ H.out 0 0).mono ?_
   obtain ⟨RP,hRP⟩:∃ RP,followP (szs a) (wordA a) 0 0=RP:=⟨_,rfl⟩
   rw [hRP] at HW0 ⊢
   clear hRP
   rintro e w1 ⟨rfl,hg⟩
   have hga:=(Keep.refl NoB w1).alloc (.cells RP.1 257)
   have hgn:=heap_alloc_new w1 (.cells RP.1 257)
   have hgg:=hg.grow hga
   obtain ⟨w9,hw9⟩:∃ w9,w1.alloc (.cells RP.1 257)=w9:=⟨_,rfl⟩
   obtain ⟨g,hgs⟩:∃ g,w1.heap.size=g:=⟨_,rfl⟩
   have HGS:=LH (show wr.heap.size≤g by rw [← hgs];exact hg.size)
   rw [hw9] at hgg hgn
   rw [hgs] at hgn
   have HI:Hid (WkI (szs a) (wordA a) st at_ TT 0 RP.1 RP.2 0∧Grow wr w9∧w9.heap[g]? = some (.cells RP.1 257 (0,0))):=LH ⟨HW0.out,hgg,hgn⟩
   clear hg hga hgn hgg HW0 p0 p1 pf m0 m1 m2 mf hlt hlt' hi
   go_wp2
   try rw [hw9]
   try rw [hgs]
   clear hw9 hgs
   go_loopw [10,11,12] (fun ve vp v wv=>∃ (i:Nat) (o:Ob) (e paid:Int),v=.int .i64 i∧ve=.int .i64 e∧vp=.int .i64 paid∧Hid (WkI (szs a) (wordA a) st at_ TT i o e paid∧Grow wr wv∧wv.heap[g]? = some (.cells o 257 (0,0)))) (fun _ _ v _=>st.length+2-(intOf v).toNat)
   case atStart=>exact ⟨0,RP.1,RP.2,0,rfl,rfl,rfl,HI⟩
   case round =>
    clear HI
    obtain ⟨i,o,e,paid,rfl,rfl,rfl,HI⟩:=hrel
    rename World=>wv
    have HPr:=LH (Grow.heap HI.out.2.1 HP.out)
    have HZr:=LH (Grow.heap HI.out.2.1 HZ.out)
    obtain ⟨p0,p1,pf⟩:=zVA HPr.out
    have hi0:0≤(i:Int):=by omega
    by_cases hle:i≤st.length
    ·have hle' : (i : Int) ≤ st.length := by omega
     by_cases he:e=0
     ·subst he
      obtain ⟨d0,d1,d2,d3,d4,d5,d6,df⟩:=zC HI.out.2.2
      have hbw:=za HI.out.1.oo
      have hwa:IntKind.i64.wrap (1+obWords o)=1+obWords o:=IntWalk.i64_in _ (by omega)
      have hwb:IntKind.i64.wrap (paid+(1+obWords o))=paid+(1+obWords o):=IntWalk.i64_in _ (by have:=HI.out.1.p0;have:=HI.out.1.p1;omega)
      go_wp2_with fail
      refine (zRA o _ HI.out.1.oo.ok).mono ?_
      rintro e w2 ⟨rfl,hg⟩
      have hwi:IntKind.i64.wrap ((i:Int)+1)=(i:Int)+1:=IntWalk.i64_in _ (by omega)
      replace HI:Hid (WkI (szs a) (wordA a) st at_ TT i o 0 paid∧Grow wr w2∧w2.heap[g]? = some (.cells o 257 (0,0))):=LH ⟨HI.out.1,HI.out.2.1.grow hg,Grow.heap hg HI.out.2.2⟩
      replace HPr:=LH (Grow.heap hg HPr.out)
      replace HZr:=LH (Grow.heap hg HZr.out)
      clear hg p0 p1 pf d0 d1 d2 d3 d4 d5 d6 df hbw
      by_cases hpc:8192<paid+(1+obWords o)
      ·have E:=LH (HI.out.1.over hle hpc)
       obtain ⟨y0,y1,y2,y3,y4,yf⟩:=zA HZr.out
       go_wp2
       refine ret5 (HG.out.grow HI.out.2.1) (by omega) HZr.out (fun w' z0 z1 z2 z3 z4 zf=>?_) rfl (fun w' hg=>⟨by rw [E.out];rfl,hg⟩)
       rw [results_cell_tmp rfl];go_simp
      ·have hbw:=za HI.out.1.oo
       obtain ⟨p0,p1,pf⟩:=zVA HPr.out
       by_cases hlt:i<st.length
       ·have hlt':(i:Int)<st.length:=by omega
        obtain ⟨ad,hA2,q0⟩:=SliceR.int_at (k:=.i64) (HT.out.grow HI.out.2.1) i hlt
        have HNX:=LH (HI.out.1.next HSO.out hlt hpc)
        have hkk:=HK.out _ (List.getElem_mem hlt)
        obtain ⟨m0,m1,m2,mf⟩:=zI (Grow.heap HI.out.2.1 HS.out)
        obtain ⟨d0,d1,d2,d3,d4,d5,d6,df⟩:=zC HI.out.2.2
        have HSTP:=LH (fun w' (hg:Grow w2 w')=>zTH a HA.out A c w' ((H.out.grow HI.out.2.1).grow hg) o HI.out.1.oo st[i] hkk.1 hkk.2)
        subst hA2
        generalize st[i]=ki at q0 HNX HSTP
        obtain ⟨F,hF⟩:∃ F,stepR (szs a) (wordA a) o ki=F:=⟨_,rfl⟩
        rw [hF] at HNX HSTP
        clear hF hkk
        go_wp2
        refine zOB NoB [0,1,2,3,4,5,6] [] [0,1,3,6] [12] #[true,true,true,true,true,true,true,false,false,false,false,false,false,false] 7 rfl (by kernel_rfl) ?_
        refine oc3 m0 m1 m2 ?_
        refine oc7 d0 d1 d2 d3 d4 d5 d6 ?_
        refine ord_p ?_
        refine oc1 p0 ?_
        iterate 2
         refine ord_p ?_
        refine oc1 q0 ?_
        refine zD ?_
        clear p0 p1 pf m0 m1 m2 mf d0 d1 d2 d3 d4 d5 d6 df q0
        have hgd:=(Keep.refl NoB w2).drew
        refine zrA 7 11 #[true,true,true,true,true,true,true,true,false,false,false,false,false,false] #[true,true,true,true,true,true,true,false,false,false,false,true,false,false] (by kernel_rfl) ?_ ?_
        ·
         refine zG rfl rfl rfl rfl rfl Tryz.func175 rfl rfl [.agg #[.slice A a.length c,qL,qI],.agg o,.int .i64 ki] rfl ?_
         refine (HSTP.out _ hgd).mono ?_
         rintro e wA ⟨rfl,hgA⟩
         refine ⟨_,rfl,fun _=>hgA,?_⟩
         simp only [Act.put,pB,pC,pD]
         have hgdA:=hgd.grow hgA
         refine zD ?_
         refine zbE (n:=3) [8,9,10] [] [] #[true,true,true,true,true,true,true,true,true,true,true,false,false,false] (by kernel_rfl) ?_
         iterate 3
          refine ord_p ?_
         refine zD ?_
         refine zPA [11,12,13] [11,12,13] [] (by kernel_rfl) ?_
         refine zh rfl rfl rfl rfl ?_ ?_ ?_ ?_ ?_ ?_
         rotate_left 3
         ·go_simp;first | with_reducible rfl | (constructor <;> with_reducible rfl)
         ·simp only [Act.put,pB,pC,pD];rfl
         have hzn:=heap_alloc_new wA (.cells () 257)
         have hgn:=hgdA.alloc (.cells () 257)
         obtain ⟨TN,hTN⟩:∃ T,wA.heap.size=T:=⟨_,rfl⟩
         generalize wA.alloc (.cells () 257)=wN at hzn hgn ⊢
         skip
         have hTg:w2.heap.size≤TN:=by rw [← hTN];exact hgdA.size
         rw [hTN] at hzn ⊢
         clear hTN
         obtain ⟨t0,t1,t2,t3,t4,t5,t6,tf⟩:=zC hzn
         refine zNB hzn ?_
         intro wT hkt hst
         have HST:=LH hst
         have HGT:=LH (hgn.trans hkt (fun j hj=>.inr (by omega)))
         clear hkt hst t0 t1 t2 t3 t4 t5 t6 tf
         refine ord_s ?_
         refine zD ?_
         have hgl:g<w2.heap.size:=(gE HI.out.2.2).1
         have hneT:g≠TN:=by omega
         have hneT2:TN≠g:=by omega
         have HGB:=LH (Grow.heap HGT.out HI.out.2.2)
         obtain ⟨t0,t1,t2,t3,t4,t5,t6,tf⟩:=zC HST.out
         obtain ⟨d0,d1,d2,d3,d4,d5,d6,df⟩:=zC HGB.out
         obtain ⟨hst,hgt⟩:=zc (.int .i64 F.1.kind) (.int .i64 F.1.seg) (.int .i64 F.1.at_) (.int .i64 F.1.data) (.int .i64 F.1.ptrs) (.int .i64 F.1.size) (.int .i64 F.1.count) (HI.out.2.1.grow HGT.out) HGS.out HGB.out
         have HN:=LH (And.intro HNX.out (And.intro hgt hst))
         clear hst hgt HI HST HGT HGB HNX HPr HZr HSTP
         go_wp2
         go_roundw
         case rel=>exact ⟨i+1,F.1,F.2,_,by go_num,rfl,rfl,HN⟩
         case measure=>simp [intOf];omega
        ·
         refine zh rfl rfl rfl rfl ?_ ?_ ?_ ?_ ?_ ?_
         rotate_left 3
         ·go_simp;first | with_reducible rfl | (constructor <;> with_reducible rfl)
         ·simp only [Act.put,pB,pC,pD];rfl
         have hzn:=heap_alloc_new w2.drew (.cells () 257)
         have hgn:=hgd.alloc (.cells () 257)
         obtain ⟨TN,hTN⟩:∃ T,w2.heap.size=T:=⟨_,rfl⟩
         generalize w2.drew.alloc (.cells () 257)=wN at hzn hgn ⊢
         rw [show w2.drew.heap.size=w2.heap.size from rfl] at hzn
         have hTg:w2.heap.size≤TN:=by rw [← hTN];exact Nat.le_refl _
         rw [hTN] at hzn ⊢
         clear hTN
         refine zD ?_
         refine zPA [7,8,9,10,12,13] [7,12,13] [] (by kernel_rfl) ?_
         refine zG rfl rfl rfl rfl rfl Tryz.func175 rfl rfl [.agg #[.slice A a.length c,qL,qI],.agg o,.int .i64 ki] rfl ?_
         refine (HSTP.out _ hgn).mono ?_
         rintro e wA ⟨rfl,hgA⟩
         refine ⟨_,rfl,fun _=>hgA,?_⟩
         simp only [Act.put,pB,pC,pD]
         have hznA:=Grow.heap hgA hzn
         have hgnA:=hgn.grow hgA
         iterate 3
          refine ord_p ?_
         obtain ⟨t0,t1,t2,t3,t4,t5,t6,tf⟩:=zC hznA
         refine zNB hznA ?_
         intro wT hkt hst
         have HST:=LH hst
         have HGT:=LH (hgnA.trans hkt (fun j hj=>.inr (by omega)))
         clear hkt hst t0 t1 t2 t3 t4 t5 t6 tf
         refine ord_s ?_
         refine zD ?_
         have hgl:g<w2.heap.size:=(gE HI.out.2.2).1
         have hneT:g≠TN:=by omega
         have hneT2:TN≠g:=by omega
         have HGB:=LH (Grow.heap HGT.out HI.out.2.2)
         obtain ⟨t0,t1,t2,t3,t4,t5,t6,tf⟩:=zC HST.out
         obtain ⟨d0,d1,d2,d3,d4,d5,d6,df⟩:=zC HGB.out
         obtain ⟨hst,hgt⟩:=zc (.int .i64 F.1.kind) (.int .i64 F.1.seg) (.int .i64 F.1.at_) (.int .i64 F.1.data) (.int .i64 F.1.ptrs) (.int .i64 F.1.size) (.int .i64 F.1.count) (HI.out.2.1.grow HGT.out) HGS.out HGB.out
         have HN:=LH (And.intro HNX.out (And.intro hgt hst))
         clear hst hgt HI HST HGT HGB HNX HPr HZr HSTP
         go_wp2
         go_roundw
         case rel=>exact ⟨i+1,F.1,F.2,_,by go_num,rfl,rfl,HN⟩
         case measure=>simp [intOf];omega
       ·obtain rfl:i=st.length:=by omega
        have hlt':¬ ((st.length:Int)<st.length):=by omega
        have HNX:=LH (HI.out.1.last hpc)
        go_wp2
        go_roundw
        case rel=>exact ⟨st.length+1,o,0,_,by go_num,rfl,rfl,LH ⟨HNX.out,HI.out.2⟩⟩
        case measure=>simp [intOf]
     ·have heb:(e != 0)=true:=by simp [he]
      have E:=LH (HI.out.1.no he).2
      clear he
      obtain ⟨y0,y1,y2,y3,y4,yf⟩:=zA HZr.out
      go_wp2
      refine ret5 (HG.out.grow HI.out.2.1) (by omega) HZr.out (fun w' z0 z1 z2 z3 z4 zf=>?_) rfl (fun w' hg=>⟨by rw [E.out];rfl,hg⟩)
      rw [results_cell_tmp rfl];go_simp
    ·obtain rfl:i=st.length+1:=by have:=HI.out.1.ii;omega
     have hle':¬ (((st.length+1:Nat):Int)≤st.length):=by omega
     have hle2:¬ ((st.length:Int)+1≤st.length):=by omega
     obtain ⟨-,E0⟩:=HI.out.1.fin rfl
     obtain ⟨m0,m1,m2,mf⟩:=zI (Grow.heap HI.out.2.1 HS.out)
     obtain ⟨d0,d1,d2,d3,d4,d5,d6,df⟩:=zC HI.out.2.2
     go_wp2_with fail
     refine (zdG a HA.out A c _ (H.out.grow HI.out.2.1) o HI.out.1.oo at_ HAT.out.1 HAT.out.2).mono ?_
     rw [← E0]
     clear E0
     rintro e w3 ⟨rfl,hg⟩
     have hga:=(Keep.refl NoB w3).alloc (.cells TT.1 86)
     have hz3:=Grow.heap hg HZr.out
     have hb3:=(gE hz3).1
     have hne1:w3.heap.size≠w.heap.size+2:=by omega
     have hne2:w.heap.size+2≠w3.heap.size:=by omega
     have HG3:=LH (HG.out.grow (HI.out.2.1.grow (hg.grow hga)))
     have HZ3:=LH (Grow.heap hga hz3)
     obtain ⟨x0,x1,x2,x3,x4,xf⟩:=zA (heap_alloc_new w3 (.cells TT.1 86))
     clear hg hga hz3 hb3 p0 p1 pf m0 m1 m2 mf d0 d1 d2 d3 d4 d5 d6 df
     obtain ⟨y0,y1,y2,y3,y4,yf⟩:=zA HZ3.out
     go_wp2
     refine ret5 HG3.out (by omega) HZ3.out (fun w' z0 z1 z2 z3 z4 zf=>?_) rfl (fun w' hg=>⟨rfl,hg⟩)
     rw [results_cell_tmp rfl];go_simp
def VPost (r:Vw×Int) (w:World) (e:Ending) (w':World):Prop:=e=.returned (.tuple #[.agg r.1,.int .u16 r.2])∧Grow w w'
def goLeft (sz:List Int) (wd:Int→Int→Int×Int):List Int→Ob→Int→Ob×Int
 | [],o,left=>(o,0)
 | k :: ks,o,left=>if (stepP sz wd o k).2=0 then if payP left (stepP sz wd o k).1<0 then ((stepP sz wd o k).1,22) else goLeft sz wd ks (stepP sz wd o k).1 (payP left (stepP sz wd o k).1) else (o,(stepP sz wd o k).2)
theorem zeG (sz:List Int) (wd:Int→Int→Int×Int):∀ (st:List Int) (o:Ob) (left:Int),goP sz wd st o left=if payP left o<0 then (o,22) else goLeft sz wd st o (payP left o)
 | [],o,left=>by
  simp only [goP,goLeft,errP]
  split <;> rfl
 | k :: ks,o,left=>by
  simp only [goP,goLeft]
  split
  ·rfl
  split
  ·exact zeG sz wd ks _ _
  ·rfl
theorem zUL {sz:List Int} {wd:Int→Int→Int×Int} (h:SouOk sz wd) {o:Ob} (ho:ObIn o) (k:Int):ObIn (stepP sz wd o k).1:=by
 unfold stepP
 repeat' split
 all_goals first | exact zjA | exact ho | exact zd h _ _
theorem zjI {sv : Value} {sz : List Int} {wd : Int → Int → Int × Int} {w : World} (hS : Sou sv sz wd w) (hO : SouOk sz wd) (A2 : Option Addr) (c2 : Nat) (st : List Int) (hst : SliceR 1 (.slice A2 st.length c2) st.length (ints st) w) (hk : ∀ k ∈ st, 0 ≤ k ∧ k ≤ 1000000) (hl : st.length ≤ 32) (at_ : Int) (ha : -1000000 ≤ at_ ∧ at_ ≤ 1000000) : Calls Tryz.prog 183 #[sv, .agg #[.slice A2 st.length c2, .int .i64 at_], .int .i64 8192] w (VPost (walkP sz wd st at_ 8192) w) := by
 obtain ⟨TS,pv,fw,fs,r,rfl,-⟩:=hS.out
 obtain ⟨h3,h4,hgc⟩:=zU w (.cells #[.slice A2 st.length c2,.int .i64 at_] 83) (.cells qC 86)
 obtain ⟨wB,hwB⟩:∃ wB,(w.alloc (.cells #[.slice A2 st.length c2,.int .i64 at_] 83)).alloc (.cells qC 86)=wB:=⟨_,rfl⟩
 rw [hwB] at h3 h4 hgc
 have HP:=LH h3
 have HZ:=LH h4
 have HG:=LH hgc
 have H:=LH (hS.grow hgc)
 have HT:=LH (hst.grow hgc)
 have HK:=LH hk
 have HAT:=LH ha
 have HSO:=LH hO
 obtain ⟨TT,hTT⟩:∃ TT,walkP sz wd st at_ 8192=TT:=⟨_,rfl⟩
 have HW0:=LH (zRD sz wd st at_ 8192)
 rw [hTT] at HW0 ⊢
 obtain ⟨p0,p1,pf⟩:=zVA h3
 clear hS hO hst hk ha h3 h4 hgc hTT
 go_enter Tryz.func183,Tryz.ntmps183
 go_wp2
 go_step3
 go_wp2
 try rw [hwB]
 clear hwB
 go_loopw [22] (fun v wr=>wr=wB∧∃ i:Nat,i≤st.length∧v=.int .i64 i) (fun v _=>st.length-(intOf v).toNat)
 case atStart=>exact ⟨rfl,0,by omega,rfl⟩
 case round =>
  obtain ⟨rfl,i,hi,rfl⟩:=hrel
  by_cases hlt:i<st.length
  ·have hlt':(i:Int)<st.length:=by omega
   have hwi:IntKind.i64.wrap ((i:Int)+1)=(i:Int)+1:=IntWalk.i64_in _ (by omega)
   have hi0:0≤(i:Int):=by omega
   obtain ⟨ad,rfl,q0⟩:=SliceR.int_at (k:=.i64) HT.out i hlt
   have hk0:¬ st[i]<0:=by have:=(HK.out _ (List.getElem_mem hlt)).1;omega
   generalize st[i]=ki at q0 hk0
   go_wp2
   go_roundw
   case rel=>exact ⟨trivial,i+1,by omega,by go_num⟩
   case measure=>simp [intOf];omega
  ·obtain rfl:i=st.length:=by omega
   have hlt':¬ ((st.length:Int)<st.length):=by omega
   have h32:¬ ((32:Int)<st.length):=by omega
   go_wp2_with fail
   refine (zy H.out HSO.out 0 0).mono ?_
   have HRI:=LH (zd HSO.out 0 0)
   obtain ⟨RP,hRP⟩:∃ RP,followP sz wd 0 0=RP:=⟨_,rfl⟩
   rw [hRP] at HW0 HRI ⊢
   clear hRP
   rintro e w1 ⟨rfl,hg⟩
   have hga:=(Keep.refl NoB w1).alloc (.cells RP.1 257)
   obtain ⟨c0,c1,c2',c3,c4,c5,c6,cf⟩:=zC (heap_alloc_new w1 (.cells RP.1 257))
   by_cases he:RP.2=0
   case neg =>
    have heb:(RP.2 != 0)=true:=by simp [he]
    have E:Hid (TT=(vw0,RP.2)):=LH (by rw [HW0.out,if_neg he])
    have HZ1:=LH (Grow.heap (hg.grow hga) HZ.out)
    have HG1:=LH (HG.out.grow (hg.grow hga))
    clear he hga hg
    obtain ⟨y0,y1,y2,y3,y4,yf⟩:=zA HZ1.out
    go_wp2
    refine ret5 HG1.out (by omega) HZ1.out (fun w' z0 z1 z2 z3 z4 zf=>?_) rfl (fun w' hg=>⟨by rw [E.out];rfl,hg⟩)
    rw [results_cell_tmp rfl];go_simp
   have heb:(RP.2 != 0)=false:=by simp [he]
   have HW1:Hid (TT=finW wd at_ (if payP 8192 RP.1<0 then (RP.1,22) else goLeft sz wd st RP.1 (payP 8192 RP.1))):=LH (by rw [HW0.out,if_pos he,zeG])
   obtain ⟨-,h6,h7⟩:=zU w1 (.cells RP.1 257) (.cells #[.iface TS pv,.int .i64 RP.1.kind,.int .i64 RP.1.seg,.int .i64 RP.1.at_,.int .i64 RP.1.data,.int .i64 RP.1.ptrs,.int .i64 RP.1.size,.int .i64 RP.1.count,.int .i64 8192] 332)
   have HWK:Hid (WkAt (w1.heap.size+1) (.iface TS pv) RP.1 8192 ((w1.alloc (.cells RP.1 257)).alloc (.cells #[.iface TS pv,.int .i64 RP.1.kind,.int .i64 RP.1.seg,.int .i64 RP.1.at_,.int .i64 RP.1.data,.int .i64 RP.1.ptrs,.int .i64 RP.1.size,.int .i64 RP.1.count,.int .i64 8192] 332))):=LH h6
   have HG1:=LH (hg.grow h7)
   have HGS:=LH (show wr.heap.size≤w1.heap.size+1 by have:=hg.size;omega)
   have hbw:=za HRI.out
   have HPAY:=LH (zAF HWK.out HRI.out.ok (by omega) (by omega))
   clear he HW0 hg hga h6 h7 hlt hlt' hi
   go_wp2_with fail
   refine HPAY.out.mono ?_
   rintro e w2 ⟨rfl,hwk,hkp⟩
   have HI0:Hid (Grow wr w2∧WkAt (w1.heap.size+1) (.iface TS pv) RP.1 (payP 8192 RP.1) w2):=LH ⟨HG1.out.trans hkp (fun j hj=>.inr (by rw [hj];exact HGS.out)),hwk⟩
   have HZ2:=LH (Grow.heap HI0.out.1 HZ.out)
   have HP2:=LH (Grow.heap HI0.out.1 HP.out)
   clear hwk hkp HPAY HWK HG1 c0 c1 c2' c3 c4 c5 c6 cf p0 p1 pf
   obtain ⟨g,hgs⟩:∃ g,w1.heap.size+1=g:=⟨_,rfl⟩
   rw [hgs] at HI0 HGS ⊢
   clear hgs
   obtain ⟨p0,p1,pf⟩:=zVA HP2.out
   by_cases hp:payP 8192 RP.1<0
   ·have hep:errP (payP 8192 RP.1)=22:=if_pos hp
    have E:Hid (TT=(vw0,22)):=LH (by rw [HW1.out,if_pos hp];rfl)
    rw [hep]
    clear hp hep
    obtain ⟨y0,y1,y2,y3,y4,yf⟩:=zA HZ2.out
    go_wp2
    refine ret5 (HG.out.grow HI0.out.1) (by omega) HZ2.out (fun w' z0 z1 z2 z3 z4 zf=>?_) rfl (fun w' hg=>⟨by rw [E.out];rfl,hg⟩)
    rw [results_cell_tmp rfl];go_simp
   ·have hep:errP (payP 8192 RP.1)=0:=if_neg hp
    have HI:Hid ((Grow wr w2∧WkAt g (.iface TS pv) RP.1 (payP 8192 RP.1) w2)∧ObIn RP.1∧(0≤payP 8192 RP.1∧payP 8192 RP.1≤8192)∧TT=finW wd at_ (goLeft sz wd (st.drop 0) RP.1 (payP 8192 RP.1))):=LH ⟨HI0.out,HRI.out,⟨by omega,by unfold payP;omega⟩,by rw [HW1.out,if_neg hp];rfl⟩
    rw [hep]
    clear hp hep HW1 HI0 HRI hbw HZ2 HP2
    go_wp2
    go_step3
    go_wp2
    go_loopw [61] (fun v wv=>∃ (i:Nat) (o:Ob) (left:Int),i≤st.length∧v=.int .i64 i∧Hid ((Grow wr wv∧WkAt g (.iface TS pv) o left wv)∧ObIn o∧(0≤left∧left≤8192)∧TT=finW wd at_ (goLeft sz wd (st.drop i) o left))) (fun v _=>st.length-(intOf v).toNat)
    case atStart=>exact ⟨0,RP.1,_,by omega,rfl,HI⟩
    case round =>
     clear HI p0 p1 pf
     obtain ⟨i,o,left,hi,rfl,HI⟩:=hrel
     rename World=>wv
     have hi0:0≤(i:Int):=by omega
     by_cases hlt:i<st.length
     ·have hlt':(i:Int)<st.length:=by omega
      have hwi:IntKind.i64.wrap ((i:Int)+1)=(i:Int)+1:=IntWalk.i64_in _ (by omega)
      obtain ⟨ad,hA2,q0⟩:=SliceR.int_at (k:=.i64) (HT.out.grow HI.out.1.1) i hlt
      have hkk:=HK.out _ (List.getElem_mem hlt)
      have HSTP:=LH (zHH HI.out.1.2 (H.out.grow HI.out.1.1) HSO.out HI.out.2.1 hkk.1 hkk.2)
      have HTT:=HI.out.2.2.2
      rw [List.drop_eq_getElem_cons hlt] at HTT
      simp only [goLeft] at HTT
      have HSI:=LH (zUL HSO.out HI.out.2.1 st[i])
      replace HTT:=LH HTT
      subst hA2
      generalize st[i]=ki at q0 HSTP HTT HSI
      obtain ⟨F,hF⟩:∃ F,stepP sz wd o ki=F:=⟨_,rfl⟩
      rw [hF] at HTT HSTP HSI
      clear hF hkk
      go_wp2_with fail
      refine HSTP.out.mono ?_
      rintro e w3 ⟨rfl,hwk,hkp⟩
      have HI3:Hid (Grow wr w3∧WkAt g (.iface TS pv) F.1 left w3):=LH ⟨HI.out.1.1.trans hkp (fun j hj=>.inr (by rw [hj];exact HGS.out)),hwk⟩
      clear hwk hkp HSTP q0
      by_cases he:F.2=0
      ·have heb:(F.2==0)=true:=by simp [he]
       replace HTT:=LH (HTT.out.trans (congrArg _ (if_pos he)))
       have hbw:=za HSI.out
       have HPAY:=LH (zAF HI3.out.2 HSI.out.ok (by have:=HI.out.2.2.1;omega) (by omega))
       clear he
       go_wp2_with fail
       refine HPAY.out.mono ?_
       rintro e w4 ⟨rfl,hwk,hkp⟩
       have HI4:Hid (Grow wr w4∧WkAt g (.iface TS pv) F.1 (payP left F.1) w4):=LH ⟨HI3.out.1.trans hkp (fun j hj=>.inr (by rw [hj];exact HGS.out)),hwk⟩
       clear hwk hkp HPAY
       by_cases hp:payP left F.1<0
       ·have hep:errP (payP left F.1)=22:=if_pos hp
        have E:Hid (TT=(vw0,22)):=LH (by rw [HTT.out,if_pos hp];rfl)
        have HZ2:=LH (Grow.heap HI4.out.1 HZ.out)
        rw [hep]
        clear hp hep
        obtain ⟨y0,y1,y2,y3,y4,yf⟩:=zA HZ2.out
        go_wp2
        refine ret5 (HG.out.grow HI4.out.1) (by omega) HZ2.out (fun w' z0 z1 z2 z3 z4 zf=>?_) rfl (fun w' hg=>⟨by rw [E.out];rfl,hg⟩)
        rw [results_cell_tmp rfl];go_simp
       ·have hep:errP (payP left F.1)=0:=if_neg hp
        have HN:Hid ((Grow wr w4∧WkAt g (.iface TS pv) F.1 (payP left F.1) w4)∧ObIn F.1∧(0≤payP left F.1∧payP left F.1≤8192)∧TT=finW wd at_ (goLeft sz wd (st.drop (i+1)) F.1 (payP left F.1))):=LH ⟨HI4.out,HSI.out,⟨by omega,by have:=HI.out.2.2.1;unfold payP;omega⟩,by rw [HTT.out,if_neg hp]⟩
        rw [hep]
        clear hp hep HTT HI4 HI3 HI HSI
        go_wp2
        go_roundw
        case rel=>exact ⟨i+1,F.1,_,by omega,by go_num,HN⟩
        case measure=>simp [intOf];omega
      ·have heb:(F.2==0)=false:=by simp [he]
       have E:Hid (TT=(vw0,F.2)):=LH (by rw [HTT.out,if_neg he];unfold finW;rw [if_neg he])
       have HZ2:=LH (Grow.heap HI3.out.1 HZ.out)
       clear he
       obtain ⟨y0,y1,y2,y3,y4,yf⟩:=zA HZ2.out
       go_wp2
       refine ret5 (HG.out.grow HI3.out.1) (by omega) HZ2.out (fun w' z0 z1 z2 z3 z4 zf=>?_) rfl (fun w' hg=>⟨by rw [E.out];rfl,hg⟩)
       rw [results_cell_tmp rfl];go_simp
     ·obtain rfl:i=st.length:=by omega
      have hlt':¬ ((st.length:Int)<st.length):=by omega
      have HTT:Hid (TT=endP wd o at_):=LH (by rw [HI.out.2.2.2,List.drop_length];rfl)
      have HZ2:=LH (Grow.heap HI.out.1.1 HZ.out)
      obtain ⟨p0,p1,pf⟩:=zVA (Grow.heap HI.out.1.1 HP.out)
      by_cases hat:at_<0
      ·have E:Hid (TT=(isW o,0)):=LH (by rw [HTT.out];exact if_pos hat)
       go_wp2_with fail
       refine (zDL HI.out.1.2).mono ?_
       rintro e w3 ⟨rfl,hg⟩
       have HZ3:=LH (Grow.heap hg HZ2.out)
       have HG3:=LH (HG.out.grow (HI.out.1.1.grow hg))
       clear hg p0 p1 pf
       rw [zLM]
       simp only [Vw.v]
       obtain ⟨IW,hIW⟩:∃ IW,isW o=IW:=⟨_,rfl⟩
       rw [hIW] at E ⊢
       clear hIW
       obtain ⟨y0,y1,y2,y3,y4,yf⟩:=zA HZ3.out
       go_wp2
       refine ret5 HG3.out (by omega) HZ3.out (fun w' z0 z1 z2 z3 z4 zf=>?_) rfl (fun w' hg=>⟨by rw [E.out],hg⟩)
       rw [results_cell_tmp rfl];go_simp
      ·have hat':¬ at_<0:=hat
       have HWW:=LH (zQG HI.out.1.2 (H.out.grow HI.out.1.1) HSO.out HI.out.2.1 (show 0≤at_ by omega) HAT.out.2)
       replace HTT:Hid (TT=if (wordP wd o at_).2=0 then (⟨o.kind,0,0,0,(wordP wd o at_).1⟩,0) else (vw0,(wordP wd o at_).2)):=LH (by rw [HTT.out];exact if_neg hat)
       obtain ⟨xw,hxw⟩:∃ xw,wordP wd o at_=xw:=⟨_,rfl⟩
       rw [hxw] at HTT HWW
       clear hxw hat
       go_wp2_with fail
       refine HWW.out.mono ?_
       rintro e w3 ⟨rfl,hg⟩
       have HZ3:=LH (Grow.heap hg HZ2.out)
       have HG3:=LH (HG.out.grow (HI.out.1.1.grow hg))
       obtain ⟨d0,d1,d2,d3,d4,d5,d6,d7,d8,df⟩:=zkA (Grow.heap hg HI.out.1.2)
       clear hg p0 p1 pf HWW
       by_cases he:xw.2=0
       ·have heb:(xw.2 != 0)=false:=by simp [he]
        have E:=LH (HTT.out.trans (if_pos he))
        clear he
        obtain ⟨y0,y1,y2,y3,y4,yf⟩:=zA HZ3.out
        go_wp2
        refine ret5 HG3.out (by omega) HZ3.out (fun w' z0 z1 z2 z3 z4 zf=>?_) rfl (fun w' hg=>⟨by rw [E.out],hg⟩)
        rw [results_cell_tmp rfl];go_simp
       ·have heb:(xw.2 != 0)=true:=by simp [he]
        have E:=LH (HTT.out.trans (if_neg he))
        clear he
        obtain ⟨y0,y1,y2,y3,y4,yf⟩:=zA HZ3.out
        go_wp2
        refine ret5 HG3.out (by omega) HZ3.out (fun w' z0 z1 z2 z3 z4 zf=>?_) rfl (fun w' hg=>⟨by rw [E.out];rfl,hg⟩)
        rw [results_cell_tmp rfl];go_simp
theorem zVH {b:Nat} {p:PP} {d:Par} {G:Nat→Prop} {w:World} (h:PAt b p d G w) (A2:Option Addr) (c2:Nat) (st:List Int) (hst:SliceR 1 (.slice A2 st.length c2) st.length (ints st) w) (hk:∀ k∈st,0≤k∧k≤1000000) (hl:st.length≤32) (at_:Int) (ha : -1000000≤at_∧at_≤1000000):Calls Tryz.prog 114 #[.pointer (some ⟨b,0,none⟩),.agg #[.slice A2 st.length c2,.int .i64 at_]] w (VPost (walkP d.sz (wordQ d) st at_ 8192) w):=by
 obtain ⟨h3,h4,hgc⟩:=zU w (.cells #[.slice A2 st.length c2,.int .i64 at_] 83) (.cells qC 86)
 obtain ⟨p0,p1,pf⟩:=zVA h3
 have HZ:=LH h4
 have HG:=LH hgc
 have HS:=LH (zBL (h.grow hgc))
 have HO:=LH (zYI h.ok)
 have HT:=LH (hst.grow hgc)
 obtain ⟨RV,hRV⟩:∃ RV,walkP d.sz (wordQ d) st at_ 8192=RV:=⟨_,rfl⟩
 have HW:=LH (fun w' (hg:Grow ((w.alloc (.cells #[.slice A2 st.length c2,.int .i64 at_] 83)).alloc (.cells qC 86)) w')=>zjI (HS.out.grow hg) HO.out A2 c2 st (HT.out.grow hg) hk hl at_ ha)
 rw [hRV] at HW ⊢
 clear h hst hk ha h3 h4 hgc hRV
 go_enter Tryz.func114,Tryz.ntmps114
 go_wp2
 refine zE [0,1,2,3,4,5,6,7,8,9] [5,8,9] [4] [8] rfl (by kernel_rfl) ?_
 iterate 4
  refine ord_p ?_
 refine oc2 p0 p1 ?_
 refine zG rfl rfl rfl rfl rfl Tryz.func183 rfl rfl [.iface 271 (.pointer (some ⟨b,3,none⟩)),.agg #[.slice A2 st.length c2,.int .i64 at_],.int .i64 8192] rfl ?_
 refine (HW.out _ (Keep.refl NoB _).drew).mono ?_
 rintro e w1 ⟨rfl,hg1⟩
 refine ⟨_,rfl,fun _=>hg1,?_⟩
 simp only [Act.put,pB,pC,pD]
 have hgw:=(HG.out.grow (Keep.refl NoB _).drew).grow hg1
 have HZ1:=LH (Grow.heap ((Keep.refl NoB _).drew.grow hg1) HZ.out)
 obtain ⟨y0,y1,y2,y3,y4,yf⟩:=zA HZ1.out
 iterate 2
  refine ord_p ?_
 refine zJ rfl rfl rfl rfl ?_ ?_ (fun h=>absurd (by simp) h) ?_
 rotate_left
 ·go_simp;with_reducible rfl
 refine ord_s ?_
 refine zD ?_
 have HGW:=LH hgw
 clear hgw hg1 y0 y1 y2 y3 y4 yf
 go_wp2
 refine ret5 HGW.out (by omega) HZ1.out (fun w' z0 z1 z2 z3 z4 zf=>?_) rfl (fun w' hg=>⟨rfl,hg⟩)
 rw [results_cell_tmp rfl];go_simp
theorem zQE {g b:Nat} {rc:RC} {p:PP} {d:Par} {G:Nat→Prop} {w:World} (hr:RCell g rc w) (hp:rc.phase≠3) (hq:rc.part=some ⟨b,0,none⟩) (h:PAt b p d G w) (A2:Option Addr) (c2:Nat) (st:List Int) (hst:SliceR 1 (.slice A2 st.length c2) st.length (ints st) w) (hk:∀ k∈st,0≤k∧k≤1000000) (hl:st.length≤32) (at_:Int) (ha : -1000000≤at_∧at_≤1000000):Calls Tryz.prog 41 #[.pointer (some ⟨g,0,none⟩),.agg #[.slice A2 st.length c2,.int .i64 at_]] w (VPost (walkP d.sz (wordQ d) st at_ 8192) w):=by
 obtain ⟨h3,h4,hgc⟩:=zU w (.cells #[.slice A2 st.length c2,.int .i64 at_] 83) (.cells qC 86)
 obtain ⟨p0,p1,pf⟩:=zVA h3
 have hr2:=hr.grow hgc
 obtain ⟨c0,c1,c2',c3,c4,c5,c6,c7,c8,c9,c10,c11,c12,c13,c14,c15,c16,c17,c18,c19,c20,cf⟩:=zH hr2
 rw [hq] at c0
 have hpb:(rc.phase==3)=false:=by simpa using hp
 have HZ:=LH h4
 have HG:=LH hgc
 have HP:=LH (h.grow hgc)
 have HT:=LH (hst.grow hgc)
 obtain ⟨RV,hRV⟩:∃ RV,walkP d.sz (wordQ d) st at_ 8192=RV:=⟨_,rfl⟩
 have HW:=LH (fun w' (hg:Grow ((w.alloc (.cells #[.slice A2 st.length c2,.int .i64 at_] 83)).alloc (.cells qC 86)) w')=>zVH (HP.out.grow hg) A2 c2 st (HT.out.grow hg) hk hl at_ ha)
 rw [hRV] at HW ⊢
 clear h hst hk ha h3 h4 hgc hRV hr hr2 hp hq c1 c2' c3 c4 c5 c7 c8 c9 c10 c11 c12 c13 c14 c15 c16 c17 c18 c19 c20
 go_enter Tryz.func41,Tryz.ntmps41
 go_wp2
 refine zE [0,1,2,3,4,5,6,7,8,9] [5,8,9] [3,4] [8] rfl (by kernel_rfl) ?_
 iterate 3
  refine ord_p ?_
 refine oc1 c0 ?_
 refine oc2 p0 p1 ?_
 refine zG rfl rfl rfl rfl rfl Tryz.func114 rfl rfl [.pointer (some ⟨b,0,none⟩),.agg #[.slice A2 st.length c2,.int .i64 at_]] rfl ?_
 refine (HW.out _ (Keep.refl NoB _).drew).mono ?_
 rintro e w1 ⟨rfl,hg1⟩
 refine ⟨_,rfl,fun _=>hg1,?_⟩
 simp only [Act.put,pB,pC,pD]
 have hgw:=(HG.out.grow (Keep.refl NoB _).drew).grow hg1
 have HZ1:=LH (Grow.heap ((Keep.refl NoB _).drew.grow hg1) HZ.out)
 obtain ⟨y0,y1,y2,y3,y4,yf⟩:=zA HZ1.out
 iterate 2
  refine ord_p ?_
 refine zJ rfl rfl rfl rfl ?_ ?_ (fun h=>absurd (by simp) h) ?_
 rotate_left
 ·go_simp;with_reducible rfl
 refine ord_s ?_
 refine zD ?_
 have HGW:=LH hgw
 clear hgw hg1 y0 y1 y2 y3 y4 yf
 go_wp2
 refine ret5 HGW.out (by omega) HZ1.out (fun w' z0 z1 z2 z3 z4 zf=>?_) rfl (fun w' hg=>⟨rfl,hg⟩)
 rw [results_cell_tmp rfl];go_simp
theorem zyL {x:RX} (hx:x.Ok) {g sn:Nat} {s:RSt} {F:Nat→Prop} {w:World} (h:RvI x g sn s F w) (hs:noFail s=true) (A2:Option Addr) (c2:Nat) (st:List Int) (hst:SliceR 1 (.slice A2 st.length c2) st.length (ints st) w) (hk:∀ k∈st,0≤k∧k≤1000000) (hl:st.length≤32) (at_:Int) (ha : -1000000≤at_∧at_≤1000000):Calls Tryz.prog 41 #[.pointer (some ⟨g,0,none⟩),.agg #[.slice A2 st.length c2,.int .i64 at_]] w (VPost (readS x st at_ s) w):=by
 cases s with
 | idle =>
  obtain ⟨rc,k,Gk,h0,hp⟩:=h
  exact zWC h0.cell (by omega) h0.part A2 st.length c2 at_
 | hear f =>
  obtain ⟨rc,k,Gk,G,h0,hp,_⟩:=h
  exact zWC h0.cell (by omega) h0.part A2 st.length c2 at_
 | part kb =>
  obtain ⟨rc,b,p,G,k,Gk,h0,hp,_⟩:=h
  exact zQE h0.at_.cell (by omega) h0.at_.part h0.at_.pat A2 c2 st hst hk hl at_ ha
 | ready =>
  obtain ⟨rc,b,p,kb,G,k,Gk,h0,hp,hb,_⟩:=h
  have h9:=zQE h0.at_.cell (by omega) h0.at_.part h0.at_.pat A2 c2 st hst hk hl at_ ha
  rw [zBK hx hb] at h9
  exact h9
 | fail e=>cases hs
end Go.Proofs.YtfkcpaahdlkcdaaGreat

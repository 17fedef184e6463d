import Derived.Test.YtfkcpaahdlkcdaaGreatRRecvReads29
set_option linter.unusedSimpArgs false
set_option linter.unusedVariables false
set_option maxRecDepth 100000
set_option maxHeartbeats 16000000
namespace Go.Proofs.YtfkcpaahdlkcdaaGreat
open Go.RowKit
def lenT (ps:List (List Int)) (k:Nat):Nat:=(ps.take k).flatten.length
theorem zBF {ps:List (List Int)} {k:Nat} (hk:k<ps.length):lenT ps (k+1)=lenT ps k+ps[k].length:=by
 unfold lenT
 rw [List.take_succ_eq_append_getElem hk,List.flatten_append,List.length_append];simp
theorem zsJ {ps:List (List Int)} {k:Nat} (hk:k<ps.length):(ps.take (k+1)).flatten=(ps.take k).flatten++ps[k]:=by
 rw [List.take_succ_eq_append_getElem hk,List.flatten_append];simp
theorem zvL (ps:List (List Int)) (k:Nat):lenT ps k≤ps.flatten.length:=by
 unfold lenT
 conv=>rhs;rw [← List.take_append_drop k ps]
 rw [List.flatten_append,List.length_append]
 omega
theorem zPF (ps:List (List Int)) (F:List Int) (hF:ps.flatten=F) (A:Option Addr) (c:Nat) (w:World) (h:RowsR .i64 ps (.slice A ps.length c) w) (h0:0<F.length) (h1:F.length≤1000) (h2:ps.length≤100) :
    Calls Tryz.prog 231 #[.slice A ps.length c] w fun e w'=>∃ A c,e=.returned (.slice A F.length c)∧Grow w w'∧w'.ownsRow w.heap.size 3 1 (.slice A F.length c) F.length (ints F):=by
 have H:=LH h
 have HF:=LH hF
 have HN:Hid (ps.flatten.length=F.length):=LH (by rw [hF])
 have HT:Hid (∀ k,lenT ps k≤F.length):=LH (fun k=>hF ▸ zvL ps k)
 clear h hF
 go_enter Tryz.func231,Tryz.ntmps231
 go_wp2
 go_loopw [3,11] (fun vs v wr=>∃ k:Nat,k≤ps.length∧v=.int .i64 k∧vs=.int .i64 (lenT ps k:Nat)∧wr=w) (fun _ v _=>ps.length-(intOf v).toNat)
 case atStart=>exact ⟨0,by omega,rfl,by simp [lenT],rfl⟩
 case round =>
  obtain ⟨k,hk,rfl,rfl,rfl⟩:=hrel
  by_cases hlt:k<ps.length
  ·obtain ⟨ad,A',c',rfl,h2',_⟩:=H.out.at_ k hlt
   have hw:IntKind.i64.wrap ((k:Int)+1)=(k:Int)+1:=IntWalk.i64_in _ (by omega)
   have hlt':(k:Int)<ps.length:=by omega
   have e1:=zBF hlt
   have e2:=HT.out (k+1)
   have hw2:IntKind.i64.wrap ((lenT ps k:Nat)+(ps[k].length:Nat):Int)=(lenT ps (k+1):Nat):=by rw [IntWalk.i64_in _ (by omega)];omega
   have hnn:(((lenT ps (k+1):Nat):Int)<0)=False:=by simp
   go_wp2
   go_roundw
   case rel=>exact ⟨k+1,by omega,by go_num,by rw [e1];go_num,trivial⟩
   case measure=>simp [intOf];omega
  ·obtain rfl:k=ps.length:=by omega
   have hlt':¬ ((ps.length:Int)<ps.length):=by omega
   have e9:lenT ps ps.length=F.length:=by rw [← HN.out];simp [lenT]
   rw [e9]
   go_wp2_with fail
   refine (zIH F.length h0 (by omega) _).mono ?_
   rintro e w1 ⟨b,c2,rfl,ho,hg⟩
   have HO:=LH ho
   have HG:=LH hg
   clear ho hg
   obtain ⟨W,rfl⟩:∃ W:World,W=wr:=⟨_,rfl⟩
   go_wp2
   go_loopw [6,27] (fun vo v wr=>∃ k:Nat,k≤ps.length∧v=.int .i64 k∧∃ A4 c4,vo=.slice A4 (lenT ps k) c4∧Hid (Grow W wr∧wr.ownsRow W.heap.size 3 1 (.slice A4 (lenT ps k) c4) (lenT ps k) (ints (ps.take k).flatten))) (fun _ v _=>ps.length-(intOf v).toNat)
   case atStart=>exact ⟨0,by omega,rfl,_,c2,rfl,HG.out,HO.out⟩
   case round =>
    obtain ⟨k,hk,rfl,A4,c4,rfl,HS⟩:=hrel
    by_cases hlt:k<ps.length
    ·obtain ⟨ad,A',c',rfl,h2',h3'⟩:=(H.out.grow HS.out.1).at_ k hlt
     have hw:IntKind.i64.wrap ((k:Int)+1)=(k:Int)+1:=IntWalk.i64_in _ (by omega)
     have hlt':(k:Int)<ps.length:=by omega
     have e1:=zBF hlt
     have e2:=HT.out (k+1)
     have E1:Hid (ints (ps.take (k+1)).flatten=ints (ps.take k).flatten++ints ps[k]):=LH (by rw [zsJ hlt];simp [ints])
     have HSR:=LH (show SliceR 1 (.slice A' ps[k].length c') ps[k].length (ints ps[k]) _ from h3')
     clear h3'
     go_wp2_with (at_builtin;refine zL _ rfl _ _ 37 37 rfl W.heap.size 3 (.int .i64 0) 1 8 ziA zUB rfl (.slice A4 (lenT ps k) c4) (lenT ps k) (ints (ps.take k).flatten) rfl (.slice A' ps[k].length c') ps[k].length (ints ps[k]) rfl ?_ (by exact HS.out.2) (by exact HSR.out.src ziA (zkD _)) (by simp only [maxLen];omega) (by omega) (by have:=HS.out.1.size;omega);intro v2 w2 hap;refine Hid.out ?_)
     refine LH ?_
     rw [← e1,← E1.out] at hap
     have Hg2:Hid (Grow W w2):=((((HS.out.1.mono (T:=fun k=>W.heap.size≤k) (fun _ h=>h.elim))).grown hap.grew (fun k hk=>.inl (HS.out.2.lt k hk).1))).new (fun _ h=>h)
     have Ho2:=LH hap.own
     obtain ⟨A6,c6,rfl,_⟩:=zK hap.own
     clear hap
     go_wp2
     go_roundw
     case rel=>exact ⟨k+1,by omega,by go_num,A6,c6,rfl,Hg2.out,Ho2.out⟩
     case measure=>simp [intOf];omega
    ·obtain rfl:k=ps.length:=by omega
     have hlt':¬ ((ps.length:Int)<ps.length):=by omega
     rw [List.take_length,e9,HF.out] at HS
     rw [e9]
     go_wp2
     go_ret
     exact ⟨A4,c4,rfl,HS.out⟩
structure PagesOk (ps:List (List Int)) (F:List Int):Prop where
 n:ps.length≤4
 one:∀ i (h:i<ps.length),1≤ps[i].length∧ps[i].length≤4
 full:∀ i (h:i<ps.length),i+1<ps.length→ps[i].length=4
 fit:fitsB F=true
 flat:ps.flatten=F
theorem zdB (ps:List (List Int)) (F:List Int) (hp:PagesOk ps F) (A:Option Addr) (c:Nat) (w:World) (h:RowsR .i64 ps (.slice A ps.length c) w) :
    Calls Tryz.prog 180 #[.slice A ps.length c] w fun e w'=>∃ A c,e=.returned (.tuple #[.slice A F.length c,.bool true])∧Grow w w'∧w'.ownsRow w.heap.size 3 1 (.slice A F.length c) F.length (ints F):=by
 have H:=LH h
 have hn:=hp.n
 have HP:=LH hp
 obtain ⟨hf1,hf2,hf3,hf4⟩:=zM hp.fit
 have HF:Hid (∀ x∈F,-9223372036854775808≤x∧x≤9223372036854775807):=LH (fun x hx=>by
  have h1:=hf3 x hx
  have h2:=zGB hf3 x hx
  omega)
 clear h hp hf3 hf4
 go_enter Tryz.func180,Tryz.ntmps180
 go_wp2
 go_loopw [9] (fun v wr=>∃ k:Nat,k≤ps.length∧v=.int .i64 k∧wr=w) (fun v _=>ps.length-(intOf v).toNat)
 case atStart=>exact ⟨0,by omega,rfl,rfl⟩
 case round =>
  obtain ⟨k,hk,rfl,rfl⟩:=hrel
  by_cases hlt:k<ps.length
  ·obtain ⟨ad,A',c',rfl,h2',_⟩:=H.out.at_ k hlt
   have hw:IntKind.i64.wrap ((k:Int)+1)=(k:Int)+1:=IntWalk.i64_in _ (by omega)
   have hw2:IntKind.i64.wrap ((ps.length:Int)-1)=(ps.length:Int)-1:=IntWalk.i64_in _ (by omega)
   have hlt':(k:Int)<ps.length:=by omega
   obtain ⟨o1,o2⟩:=HP.out.one k hlt
   have g1:¬ ((ps[k].length:Int)<1):=by omega
   have g2:¬ ((4:Int)<ps[k].length):=by omega
   by_cases hl:k+1<ps.length
   ·have o3:=HP.out.full k hlt hl
    have g3:(k:Int)<(ps.length:Int)-1:=by omega
    have g4:¬ ((ps[k].length:Int)<4):=by omega
    go_wp2
    go_roundw
    case rel=>exact ⟨k+1,by omega,by go_num,trivial⟩
    case measure=>simp [intOf];omega
   ·have g3:¬ ((k:Int)<(ps.length:Int)-1):=by omega
    go_wp2
    go_roundw
    case rel=>exact ⟨k+1,by omega,by go_num,trivial⟩
    case measure=>simp [intOf];omega
  ·obtain rfl:k=ps.length:=by omega
   have hlt':¬ ((ps.length:Int)<ps.length):=by omega
   go_wp2_with fail
   refine (zPF ps F HP.out.flat A c _ H.out (by omega) (by omega) (by omega)).mono ?_
   rintro e w1 ⟨A1,c1,rfl,hg,ho⟩
   have HO:=LH ho
   have HG:=LH hg
   have hfit:=HP.out.fit
   have HC:=LH (zhB A1 c1 F w1 (SliceR.of_own ho) HF.out)
   clear ho hg
   rw [hfit] at HC
   go_wp2_with fail
   refine HC.out.mono ?_
   rintro e w2 ⟨rfl,rfl⟩
   go_wp2
   go_ret2
   exact ⟨A1,c1,rfl,HG.out,HO.out⟩
theorem zRG (bs:List Bool) (b:Bool) (hb:bs.contains false=b) (A:Option Addr) (c:Nat) (w:World) (h:SliceR 1 (.slice A bs.length c) bs.length (bs.map Value.bool) w) (hn:bs.length≤1000) :
    Calls Tryz.prog 230 #[.slice A bs.length c,qL] w fun e w'=>∃ i:Int,e=.returned (.int .i64 i)∧decide (0≤i)=b∧w=w':=by
 have H:=LH h
 have HB:=LH hb
 clear h hb
 go_enter Tryz.func230,Tryz.ntmps230
 go_wp2
 go_loopw [8] (fun v wr=>∃ k:Nat,k≤bs.length∧v=.int .i64 k∧wr=w∧Hid ((bs.take k).contains false=false)) (fun v _=>bs.length-(intOf v).toNat)
 case atStart=>exact ⟨0,by omega,rfl,rfl,LH (by simp)⟩
 case round =>
  obtain ⟨k,hk,rfl,rfl,HH⟩:=hrel
  by_cases hlt:k<bs.length
  ·have hw:IntKind.i64.wrap ((k:Int)+1)=(k:Int)+1:=IntWalk.i64_in _ (by omega)
   have hlt':(k:Int)<bs.length:=by omega
   obtain ⟨A1,c1,e1,_,_,_,hc⟩:=H.out
   cases e1
   obtain ⟨ad,rfl,hcell⟩:=hc k (.bool bs[k]) (by simp [hlt])
   by_cases hb:bs[k]=true
   ·rw [hb] at hcell
    have HN:Hid ((bs.take (k+1)).contains false=false):=LH (by
     rw [List.take_succ_eq_append_getElem hlt]
     have:=HH.out
     rw [List.contains_eq_mem] at this ⊢
     simp only [decide_eq_false_iff_not,List.mem_append,List.mem_singleton,not_or] at this ⊢
     exact ⟨this,by rw [hb];simp⟩)
    clear hb
    go_wp2
    go_roundw
    case rel=>exact ⟨k+1,by omega,by go_num,trivial,HN⟩
    case measure=>simp [intOf];omega
   ·have hb2:bs[k]=false:=by simpa using hb
    rw [hb2] at hcell
    have HN:Hid (bs.contains false=true):=LH (by rw [List.contains_eq_mem];simp only [decide_eq_true_eq];rw [← hb2];exact List.getElem_mem hlt)
    clear hb hb2
    go_wp2
    (try simp only [Exit.inBlock,Exit.then])
    go_ret
    exact ⟨k,rfl,by rw [← HB.out,HN.out];simp,rfl⟩
  ·obtain rfl:k=bs.length:=by omega
   have hlt':¬ ((bs.length:Int)<bs.length):=by omega
   have HN:Hid (bs.contains false=false):=LH (by have:=HH.out;rwa [List.take_length] at this)
   go_wp2
   go_ret
   exact ⟨-1,rfl,by rw [← HB.out,HN.out];decide,rfl⟩
theorem zFA (bs:List Bool) (b:Bool) (hb:bs.contains false=b) (A:Option Addr) (c:Nat) (w:World) (h:SliceR 1 (.slice A bs.length c) bs.length (bs.map Value.bool) w) (hn:bs.length≤1000) :
    Calls Tryz.prog 179 #[.slice A bs.length c,qL] w fun e w'=>e=.returned (.bool b)∧w=w':=by
 have H:=LH h
 have HB:=LH hb
 clear h hb
 go_enter Tryz.func179,Tryz.ntmps179
 go_wp2_with fail
 refine (zRG bs b HB.out A c w H.out hn).mono ?_
 rintro e w1 ⟨i,rfl,hi,rfl⟩
 subst hi
 clear HB
 go_wp2
 go_ret
 exact ⟨rfl,rfl⟩
def RC.h (d:RC) (i:Nat):Bool:=match i with | 0=>d.h0 | 1=>d.h1 | 2=>d.h2 | _=>d.h3
def RC.z (d:RC) (i:Nat):Sl:=match i with | 0=>d.z0 | 1=>d.z1 | 2=>d.z2 | _=>d.z3
def RC.setH (d:RC) (i:Nat):RC:=match i with | 0=>{ d with h0:=true } | 1=>{ d with h1:=true } | 2=>{ d with h2:=true } | _=>{ d with h3:=true }
def RC.setZ (d:RC) (i:Nat) (s:Sl):RC:=match i with | 0=>{ d with z0:=s } | 1=>{ d with z1:=s } | 2=>{ d with z2:=s } | _=>{ d with z3:=s }
theorem four {P:Nat→Prop} (h0:P 0) (h1:P 1) (h2:P 2) (h3:P 3) (i:Nat) (hi:i<4):P i:=by
 match i,hi with
 | 0,_=>exact h0
 | 1,_=>exact h1
 | 2,_=>exact h2
 | 3,_=>exact h3
theorem RCell.h_cell {g:Nat} {d:RC} {w:World} (h:RCell g d w) (i:Nat) (hi:i<4):w.cell? ⟨g,11+i,none⟩=some (.bool (d.h i)) :=
 four (P:=fun i=>w.cell? ⟨g,11+i,none⟩=some (.bool (d.h i))) (World.news_of_block h 11 _ rfl) (World.news_of_block h 12 _ rfl) (World.news_of_block h 13 _ rfl) (World.news_of_block h 14 _ rfl) i hi
theorem RCell.z_cell {g:Nat} {d:RC} {w:World} (h:RCell g d w) (i:Nat) (hi:i<4):w.cell? ⟨g,15+i,none⟩=some (.slice (d.z i).A (d.z i).n (d.z i).c) :=
 four (P:=fun i=>w.cell? ⟨g,15+i,none⟩=some (.slice (d.z i).A (d.z i).n (d.z i).c)) (World.news_of_block h 15 _ rfl) (World.news_of_block h 16 _ rfl) (World.news_of_block h 17 _ rfl) (World.news_of_block h 18 _ rfl) i hi
theorem RC.setH_cs (d:RC) (i:Nat) (hi:i<4):d.cs.setIfInBounds (11+i) (.bool true)=(d.setH i).cs :=
 four (P:=fun i=>d.cs.setIfInBounds (11+i) (.bool true)=(d.setH i).cs) rfl rfl rfl rfl i hi
theorem RC.setZ_cs (d:RC) (i:Nat) (hi:i<4) (s:Sl):d.cs.setIfInBounds (15+i) (.slice s.A s.n s.c)=(d.setZ i s).cs :=
 four (P:=fun i=>d.cs.setIfInBounds (15+i) (.slice s.A s.n s.c)=(d.setZ i s).cs) rfl rfl rfl rfl i hi
theorem zSG {g:Nat} {rc:RC} {w:World} (h:RCell g rc w) (hph:rc.phase=1) (hpt:rc.part=none) (of i:Nat) (hof:rc.of=of) (h1:1≤of) (h4:of≤4) (hi:i<of) (hh:rc.h i=true) (A1 A2:Option Addr) (n1 c1' n2 c2':Nat) :
    Calls Tryz.prog 109 #[.pointer (some ⟨g,0,none⟩),.agg #[.int .i64 1,.int .u64 rc.session,.int .i64 i,.int .i64 of,.int .u32 (rc.sum:Nat),.slice A1 n1 c1',.slice A2 n2 c2']] w fun e w'=>e=.returned (.slice none 0 0)∧Grow w w':=by
 have hg0:=(Keep.refl NoB w).alloc (.cells #[.int .i64 1,.int .u64 rc.session,.int .i64 i,.int .i64 of,.int .u32 (rc.sum:Nat),.slice A1 n1 c1',.slice A2 n2 c2'] 46)
 have HZ:=LH (heap_alloc_new w (.cells #[.int .i64 1,.int .u64 rc.session,.int .i64 i,.int .i64 of,.int .u32 (rc.sum:Nat),.slice A1 n1 c1',.slice A2 n2 c2'] 46))
 have H:=LH (h.grow hg0)
 have HG:=LH hg0
 have HHH:=LH hh
 have hwi:(i:Int)<4:=by omega
 clear h hg0 hh
 go_enter Tryz.func109,Tryz.ntmps109
 obtain ⟨z0,z1,z2,z3,z4,z5,z6,zf⟩:=zC HZ.out
 obtain ⟨c0,c1,c2,c3,c4,c5,c6,c7,c8,c9,c10,c11,c12,c13,c14,c15,c16,c17,c18,c19,c20,cf⟩:=zH H.out
 rw [hpt] at c0
 rw [hph] at c6
 go_wp2_with fail
 refine (zEB H.out 1 rc.session i of rc.sum A1 A2 n1 c1' n2 c2').mono ?_
 rintro e w1 ⟨rfl,hg⟩
 replace H:=LH (H.out.grow hg)
 replace HG:=LH (HG.out.grow hg)
 replace HZ:=LH (Grow.heap hg HZ.out)
 have hdd:decide (rc.session=rc.session∧rc.sum=rc.sum)=true:=by simp
 rw [hdd]
 clear hg hdd c0 c1 c2 c3 c4 c5 c6 c7 c8 c9 c10 c11 c12 c13 c14 c15 c16 c17 c18 c19 c20 cf z0 z1 z2 z3 z4 z5 z6 zf
 obtain ⟨z0,z1,z2,z3,z4,z5,z6,zf⟩:=zC HZ.out
 obtain ⟨c0,c1,c2,c3,c4,c5,c6,c7,c8,c9,c10,c11,c12,c13,c14,c15,c16,c17,c18,c19,c20,cf⟩:=zH H.out
 rw [hpt] at c0
 rw [hph] at c6
 go_wp2
 have ch:=H.out.h_cell i (by omega)
 rw [HHH.out] at ch
 rw [hof] at c10
 refine zE [0,1,2,3,4,5,6,7,8,9,10,11,12,13,14,15] [] [1,5,10,14] [] rfl (by kernel_rfl) ?_
 refine ord_p ?_
 refine oc1 z3 ?_
 iterate 3
  refine ord_p ?_
 refine oc1 c10 ?_
 iterate 2
  refine ord_p ?_
 iterate 2
  refine zT ?_
 refine oc1G z2 ?_
 iterate 3
  refine zT ?_
 refine oc1G ch ?_
 refine ord_p ?_
 refine zD ?_
 clear z0 z1 z2 z3 z4 z5 z6 zf c0 c1 c2 c3 c4 c5 c6 c7 c8 c9 c10 c11 c12 c13 c14 c15 c16 c17 c18 c19 c20 cf ch
 go_wp2
 go_ret
 exact ⟨rfl,HG.out.drew⟩
def RC.hearing (d:RC) (of:Nat) (s:Int) (m:Nat):RC:={ d with phase:=1,session:=s,sum:=m,of:=of,h0:=false,h1:=false,h2:=false,h3:=false,z0:=⟨none,0,0⟩,z1:=⟨none,0,0⟩,z2:=⟨none,0,0⟩,z3:=⟨none,0,0⟩ }
def Hear (rc:RC) (ps:List (List Int)) (G:Nat→Prop) (w:World):Prop:=(∀ k,G k→k<w.heap.size)∧∀ j (hj:j<ps.length),rc.h j=true→∃ A c,rc.z j=⟨A,ps[j].length,c⟩∧Foot (SliceR 1 (.slice A ps[j].length c) ps[j].length (ints ps[j])) w G
theorem Hear.keep {rc:RC} {ps:List (List Int)} {G S:Nat→Prop} {w w':World} (h:Hear rc ps G w) (hk:Keep S w w') (hG:∀ k,G k→¬ S k):Hear rc ps G w' :=
 ⟨fun k hk'=>Nat.lt_of_lt_of_le (h.1 k hk') hk.size,fun j hj hh=>by
  obtain ⟨A,c,e,hf⟩:=h.2 j hj hh
  exact ⟨A,c,e,hf.keep hk hG⟩⟩
theorem Hear.none {rc:RC} {ps:List (List Int)} (hn:∀ j,rc.h j=false) (w:World):Hear rc ps NoB w:=⟨fun k hk=>hk.elim,fun j hj hh=>by rw [hn j] at hh;cases hh⟩
theorem RC.set_h (d:RC) (i:Nat) (hi:i<4) (s:Sl) (j:Nat) (hj:j<4):((d.setH i).setZ i s).h j=(if j=i then true else d.h j)∧((d.setH i).setZ i s).z j=(if j=i then s else d.z j) :=
 four (P:=fun i=>((d.setH i).setZ i s).h j=(if j=i then true else d.h j)∧((d.setH i).setZ i s).z j=(if j=i then s else d.z j)) (four (P:=fun j=>((d.setH 0).setZ 0 s).h j=(if j=0 then true else d.h j)∧((d.setH 0).setZ 0 s).z j=(if j=0 then s else d.z j)) ⟨rfl,rfl⟩ ⟨rfl,rfl⟩ ⟨rfl,rfl⟩ ⟨rfl,rfl⟩ j hj)
  (four (P:=fun j=>((d.setH 1).setZ 1 s).h j=(if j=1 then true else d.h j)∧((d.setH 1).setZ 1 s).z j=(if j=1 then s else d.z j)) ⟨rfl,rfl⟩ ⟨rfl,rfl⟩ ⟨rfl,rfl⟩ ⟨rfl,rfl⟩ j hj)
  (four (P:=fun j=>((d.setH 2).setZ 2 s).h j=(if j=2 then true else d.h j)∧((d.setH 2).setZ 2 s).z j=(if j=2 then s else d.z j)) ⟨rfl,rfl⟩ ⟨rfl,rfl⟩ ⟨rfl,rfl⟩ ⟨rfl,rfl⟩ j hj)
  (four (P:=fun j=>((d.setH 3).setZ 3 s).h j=(if j=3 then true else d.h j)∧((d.setH 3).setZ 3 s).z j=(if j=3 then s else d.z j)) ⟨rfl,rfl⟩ ⟨rfl,rfl⟩ ⟨rfl,rfl⟩ ⟨rfl,rfl⟩ j hj) i hi
theorem RC.set_rest (d:RC) (i:Nat) (hi:i<4) (s:Sl):((d.setH i).setZ i s)={ (d.setH i).setZ i s with part:=d.part,win:=d.win,back:=d.back,retry:=d.retry,quota:=d.quota,st:=d.st,phase:=d.phase,err:=d.err,session:=d.session,sum:=d.sum,of:=d.of,resumed:=d.resumed,closed:=d.closed } :=
 four (P:=fun i=>((d.setH i).setZ i s)={ (d.setH i).setZ i s with part:=d.part,win:=d.win,back:=d.back,retry:=d.retry,quota:=d.quota,st:=d.st,phase:=d.phase,err:=d.err,session:=d.session,sum:=d.sum,of:=d.of,resumed:=d.resumed,closed:=d.closed }) rfl rfl rfl rfl i hi
theorem RC.setZ_h (d:RC) (i:Nat) (s:Sl):(d.setZ i s).h=d.h:=by unfold RC.setZ;split <;> rfl
theorem zpH (g o j:Nat):(⟨g,o,none⟩:Addr).add j=⟨g,o+j,none⟩:=by unfold Addr.add;split <;> simp_all
theorem RCell.heardR {g:Nat} {d:RC} {w:World} (h:RCell g d w) (n:Nat) (hn:n≤4):SliceR 1 (.slice (some ⟨g,11,none⟩) n 4) n (((List.range n).map d.h).map Value.bool) w:=by
 refine ⟨_,_,rfl,hn,by simp,by simp,fun j u hj=>⟨_,rfl,?_⟩⟩
 rw [zpH]
 have hjl:j<n:=by have:=(List.getElem?_eq_some_iff.1 hj).1;simpa using this
 have:u=.bool (d.h j):=by simp [hjl] at hj;exact hj.symm
 rw [this]
 exact h.h_cell j (by omega)
theorem RCell.pagesR {g:Nat} {d:RC} {w:World} (h:RCell g d w) {ps:List (List Int)} {G:Nat→Prop} (hH:Hear d ps G w) (hn:ps.length≤4) (ha:((List.range ps.length).map d.h).contains false=false):RowsR .i64 ps (.slice (some ⟨g,15,none⟩) ps.length 4) w:=by
 refine ⟨_,_,rfl,fun j hj=>?_⟩
 have hh:d.h j=true:=by
  by_cases h0:d.h j=true
  ·exact h0
  ·rw [List.contains_eq_mem] at ha
   simp only [decide_eq_false_iff_not] at ha
   exact absurd (List.mem_map.2 ⟨j,List.mem_range.2 hj,by simpa using h0⟩) ha
 obtain ⟨A,c,e,hf⟩:=hH.2 j hj hh
 refine ⟨_,A,c,rfl,?_,hf.now⟩
 rw [zpH,h.z_cell j (by omega),e]
theorem Hear.more {rc:RC} {ps:List (List Int)} {G:Nat→Prop} {w:World} (h:Hear rc ps G w) (i:Nat) (hi:i<ps.length) (h4:ps.length≤4) {b:Nat} {A:Option Addr} {c:Nat} (ho:w.ownsRow b 3 1 (.slice A (ps[i]'hi).length c) (ps[i]'hi).length (ints (ps[i]'hi))):Hear ((rc.setH i).setZ i ⟨A,(ps[i]'hi).length,c⟩) ps (fun k=>G k∨(Value.slice A (ps[i]'hi).length c).ownBlock=some k) w:=by
 have hlt:∀ k,(G k∨(Value.slice A (ps[i]'hi).length c).ownBlock=some k)→k<w.heap.size:=fun k hk=>hk.elim (h.1 k) (fun e=>(ho.lt k e).2)
 refine ⟨hlt,fun j hj hh=>?_⟩
 have hs:=RC.set_h rc i (by omega) ⟨A,(ps[i]'hi).length,c⟩ j (by omega)
 by_cases e:j=i
 ·subst e
  refine ⟨A,c,by rw [hs.2,if_pos rfl],(Foot.of_own ho).mono hlt (fun k hk=>.inr hk)⟩
 ·rw [hs.1,if_neg e] at hh
  obtain ⟨A0,c0,e0,hf⟩:=h.2 j hj hh
  exact ⟨A0,c0,by rw [hs.2,if_neg e,e0],hf.mono hlt (fun k hk=>.inl hk)⟩
theorem zXC:(Tryz.prog.info? 171).map (·.size)=some 9:=by kernel_rfl
theorem zTG {g:Nat} {rc:RC} {w:World} (h:RCell g rc w) (session:Int) (sum:Nat) (ps:List (List Int)) (h4:ps.length≤4) (hph:rc.phase=1) (hpt:rc.part=none) (hof:rc.of=ps.length) (hses:rc.session=session) (hsum:rc.sum=sum) (i:Nat) (hi:i<ps.length) (hh:rc.h i=false) {G:Nat→Prop} (hH:Hear rc ps G w) (hgG:¬ G g) (A1:Option Addr) (c1':Nat) (hs:SliceR 1 (.slice A1 (ps[i]'hi).length c1') (ps[i]'hi).length (ints (ps[i]'hi)) w) (hsl:(ps[i]'hi).length≤4) (hsg:∀ w',Keep (fun k=>k=g) w w'→SliceR 1 (.slice A1 (ps[i]'hi).length c1') (ps[i]'hi).length (ints (ps[i]'hi)) w') (hb:((List.range ps.length).map (rc.setH i).h).contains false=true) :
    Calls Tryz.prog 109 #[.pointer (some ⟨g,0,none⟩),.agg #[.int .i64 1,.int .u64 session,.int .i64 i,.int .i64 ps.length,.int .u32 (sum:Nat),.slice A1 (ps[i]'hi).length c1',.slice none 0 0]] w fun e w'=>e=.returned (.slice none 0 0)∧∃ A c G',RCell g ((rc.setH i).setZ i ⟨A,(ps[i]'hi).length,c⟩) w'∧Hear ((rc.setH i).setZ i ⟨A,(ps[i]'hi).length,c⟩) ps G' w'∧Keep (fun k=>k=g) w w'∧∀ k,G' k→G k∨w.heap.size≤k:=by
 have hg0:=(Keep.refl NoB w).alloc (.cells #[.int .i64 1,.int .u64 session,.int .i64 i,.int .i64 ps.length,.int .u32 (sum:Nat),.slice A1 (ps[i]'hi).length c1',.slice none 0 0] 46)
 have HZ:=LH (heap_alloc_new w (.cells #[.int .i64 1,.int .u64 session,.int .i64 i,.int .i64 ps.length,.int .u32 (sum:Nat),.slice A1 (ps[i]'hi).length c1',.slice none 0 0] 46))
 have HS:=LH (hs.grow hg0)
 have H:=LH (h.grow hg0)
 have HLT:Hid (g<w.heap.size):=LH h.lt
 have HG:=LH hg0
 have HB:=LH hb
 clear hsg
 have HHH:=LH hh
 have HHE:=LH (hH.keep hg0 (fun _ _ h=>h))
 have HGG:=LH hgG
 subst hses
 subst hsum
 clear hH hgG hh
 have hwi:(i:Int)<4:=by omega
 have hi1:¬ ((ps.length:Int)≤i):=by omega
 clear h hg0 hs hb
 go_enter Tryz.func109,Tryz.ntmps109
 obtain ⟨z0,z1,z2,z3,z4,z5,z6,zf⟩:=zC HZ.out
 obtain ⟨c0,c1,c2,c3,c4,c5,c6,c7,c8,c9,c10,c11,c12,c13,c14,c15,c16,c17,c18,c19,c20,cf⟩:=zH H.out
 rw [hpt] at c0
 rw [hph] at c6
 go_wp2_with fail
 refine (zEB H.out 1 rc.session i ps.length rc.sum A1 none (ps[i]'hi).length c1' 0 0).mono ?_
 rintro e w1 ⟨rfl,hg⟩
 replace H:=LH (H.out.grow hg)
 replace HG:=LH (HG.out.grow hg)
 replace HZ:=LH (Grow.heap hg HZ.out)
 replace HS:=LH (HS.out.grow hg)
 replace HHE:=LH (HHE.out.keep hg (fun _ _ h=>h))
 have hdd:decide (rc.session=rc.session∧rc.sum=rc.sum)=true:=by simp
 rw [hdd]
 clear hg hdd c0 c1 c2 c3 c4 c5 c6 c7 c8 c9 c10 c11 c12 c13 c14 c15 c16 c17 c18 c19 c20 cf z0 z1 z2 z3 z4 z5 z6 zf
 obtain ⟨z0,z1,z2,z3,z4,z5,z6,zf⟩:=zC HZ.out
 obtain ⟨c0,c1,c2,c3,c4,c5,c6,c7,c8,c9,c10,c11,c12,c13,c14,c15,c16,c17,c18,c19,c20,cf⟩:=zH H.out
 rw [hpt] at c0
 rw [hph] at c6
 rw [hof] at c10
 have ch:=H.out.h_cell i (by omega)
 rw [HHH.out] at ch
 go_wp2
 refine zE [0,1,2,3,4,5,6,7,8,9,10,11,12,13,14,15] [] [1,5,10,14] [] rfl (by kernel_rfl) ?_
 refine ord_p ?_
 refine oc1 z3 ?_
 iterate 3
  refine ord_p ?_
 refine oc1 c10 ?_
 iterate 2
  refine ord_p ?_
 iterate 2
  refine zT ?_
 refine oc1G z2 ?_
 iterate 3
  refine zT ?_
 refine oc1G ch ?_
 refine ord_p ?_
 refine zD ?_
 clear z0 z1 z2 z3 z4 z5 z6 zf c0 c1 c2 c3 c4 c5 c6 c7 c8 c9 c10 c11 c12 c13 c14 c15 c16 c17 c18 c19 c20 cf ch
 replace H:=LH ((show RCell g rc w1.drew from H.out))
 replace HG:=LH (HG.out.drew)
 replace HZ:=LH ((show w1.drew.heap[_]? = _ from HZ.out))
 replace HS:=LH (HS.out.grow (Keep.refl NoB w1).drew)
 replace HHE:=LH (HHE.out.keep (Keep.refl NoB w1).drew (fun _ _ h=>h))
 generalize w1.drew=w2 at H HG HZ HS HHE ⊢
 obtain ⟨z0,z1,z2,z3,z4,z5,z6,zf⟩:=zC HZ.out
 go_wp2
 have HGN:Hid (¬ w.heap.size=g):=LH (fun e=>by have:=HLT.out;omega)
 refine ze (fun k=>k=g) [0,1,2,3,4,5,6,7,9,10,13,14,8,11,12,15,16] [8,12,16] [2,5,7] [] rfl (by kernel_rfl) ?_
 iterate 2
  refine ord_p ?_
 refine oc1 z2 ?_ (s0:=HGN.out)
 iterate 2
  refine ord_p ?_
 refine oc1 z2 ?_ (s0:=HGN.out)
 refine ord_p ?_
 refine oc1 z5 ?_ (s0:=HGN.out)
 iterate 4
  refine ord_p ?_
 refine zG rfl rfl rfl rfl rfl Tryz.func178 rfl rfl [.slice A1 (ps[i]'hi).length c1'] rfl ?_
 refine (zEA _ (ps[i]'hi) w2.drew (HS.out.grow (Keep.refl NoB w2).drew) (by omega)).mono ?_
 rintro e w3 ⟨A5,c5,rfl,ho5,hg5⟩
 refine ⟨_,rfl,fun _=>hg5.mono (fun _ h=>h.elim),?_⟩
 simp only [Act.put,pB,pC,pD]
 have h3:RCell g rc w3:=H.out.grow ((Keep.refl NoB w2).drew.grow hg5)
 have ch:=h3.h_cell i (by omega)
 have cf:∀ o,w3.frozen? ⟨g,o,none⟩=false:=fun o=>zN o h3
 refine ord_p ?_
 refine zJ rfl rfl rfl rfl ?_ ?_ ?_ ?_
 rotate_left
 ·go_simp;with_reducible rfl
 ·exact fun _=>zV _ _ _ _
 have h4':=h3.put (d':=rc.setH i) (11+i) (.bool true) (RC.setH_cs _ i (by omega))
 have cz:=h4'.1.z_cell i (by omega)
 have cf2:∀ o,(w3.setCell ⟨g,11+i,none⟩ (.bool true)).frozen? ⟨g,o,none⟩=false:=fun o=>zN o h4'.1
 refine ord_p ?_
 refine zJ rfl rfl rfl rfl ?_ ?_ ?_ ?_
 rotate_left
 ·go_simp;with_reducible rfl
 ·exact fun _=>zV _ _ _ _
 have h5':=h4'.1.put (d':=(rc.setH i).setZ i ⟨A5,(ps[i]'hi).length,c5⟩) (15+i) (.slice A5 (ps[i]'hi).length c5) (RC.setZ_cs _ i (by omega) ⟨A5,(ps[i]'hi).length,c5⟩)
 refine zD ?_
 have hkg:=h4'.2.trans h5'.2 (fun _ h=>.inl h)
 have hgr3:=(Keep.refl NoB w2).drew.grow hg5
 have hw2:=HG.out.size
 have hdw:w2.drew.heap.size=w2.heap.size:=rfl
 have hng:∀ k,(Value.slice A5 (ps[i]'hi).length c5).ownBlock=some k→¬ k=g:=fun k hk e=>by have:=(ho5.lt k hk).1;have:=HLT.out;omega
 have HO5:=LH (zF ho5 hkg hng)
 have HO5s:Hid (∀ k,(Value.slice A5 (ps[i]'hi).length c5).ownBlock=some k→w.heap.size≤k):=LH (fun k hk=>by have:=(ho5.lt k hk).1;omega)
 replace HHE:=LH ((HHE.out.keep hgr3 (fun _ _ h=>h)).keep hkg (fun k hk e=>HGG.out (by rw [← e];exact hk)))
 replace HHE:=LH (HHE.out.more i hi h4 HO5.out)
 have HKG:=LH (((HG.out.grow hgr3).mono (T:=fun k=>k=g) (fun _ h=>h.elim)).trans hkg (fun _ h=>.inl h))
 have HNZ:=LH (And.intro h5'.1 hkg)
 clear ho5 hg5 h3 ch cf h4' cz cf2 h5' hkg hgr3 hw2 hdw hng z0 z1 z2 z3 z4 z5 z6 zf HO5
 obtain ⟨w5,hw5⟩:∃ w5,((w3.setCell ⟨g,11+i,none⟩ (.bool true)).setCell ⟨g,15+i,none⟩ (.slice A5 (ps[i]'hi).length c5))=w5:=⟨_,rfl⟩
 rw [hw5] at HHE HKG HNZ ⊢
 replace H:=LH HNZ.out.1
 have HBS:Hid (((List.range ps.length).map ((rc.setH i).setZ i ⟨A5,(ps[i]'hi).length,c5⟩).h).contains false=true):=LH (by rw [RC.setZ_h];exact HB.out)
 have hrest:=RC.set_rest rc i (by omega) ⟨A5,(ps[i]'hi).length,c5⟩
 have HPOST:Hid (∃ A c G',RCell g ((rc.setH i).setZ i ⟨A,(ps[i]'hi).length,c⟩) w5.drew∧Hear ((rc.setH i).setZ i ⟨A,(ps[i]'hi).length,c⟩) ps G' w5.drew∧Keep (fun k=>k=g) w w5.drew∧∀ k,G' k→G k∨w.heap.size≤k):=LH ⟨A5,c5,_,H.out,HHE.out.keep (Keep.refl NoB w5).drew (fun _ _ h=>h),HKG.out.drew,fun k hk=>hk.imp id (HO5s.out k)⟩
 obtain ⟨rc2,hrc2⟩:∃ r,(rc.setH i).setZ i ⟨A5,(ps[i]'hi).length,c5⟩=r:=⟨_,rfl⟩
 rw [hrc2] at H HHE HBS hrest
 have HRST:=LH hrest
 have hof2:rc2.of=ps.length:=by rw [hrest];exact hof
 clear HNZ hw5 hrc2 hrest HB HZ HS HG
 obtain ⟨c0,c1,c2,c3,c4,c5,c6,c7,c8,c9,c10,c11,c12,c13,c14,c15,c16,c17,c18,c19,c20,cf⟩:=zH H.out
 rw [hof2] at c10
 go_wp2
 have hC:=zFA _ _ HBS.out (some ⟨g,11,none⟩) 4 w5.drew (by have:=(show RCell g rc2 w5.drew from H.out).heardR ps.length h4;rw [List.length_map,List.length_range];exact this) (by rw [List.length_map,List.length_range];omega)
 rw [List.length_map,List.length_range] at hC
 have HC:=LH hC
 clear hC
 have hpl:(ps.length:Int)≤4:=by omega
 refine zE [0,1,2,3,4,5,6,7,8] [8] [6] [] rfl (by kernel_rfl) ?_
 iterate 6
  refine ord_p ?_
 refine oc1 c10 ?_
 refine ord_p ?_
 refine zG rfl rfl rfl rfl rfl Tryz.func179 rfl rfl [.slice (some ⟨g,11,none⟩) ps.length 4,.bool false] rfl ?_
 refine HC.out.mono ?_
 rintro e w6 ⟨rfl,rfl⟩
 refine ⟨_,rfl,fun _=>Keep.refl _ _,?_⟩
 simp only [Act.put,pB,pC,pD]
 refine zD ?_
 clear HC c0 c1 c2 c3 c4 c5 c6 c7 c8 c9 c10 c11 c12 c13 c14 c15 c16 c17 c18 c19 c20 cf
 go_wp2
 go_ret
 exact ⟨rfl,HPOST.out⟩
theorem zUG {g:Nat} {rc:RC} {w:World} (h:RCell g rc w) (session:Int) (sum:Nat) (ps:List (List Int)) (h4:ps.length≤4) (hph:rc.phase=0) (hpt:rc.part=none) (i:Nat) (hi:i<ps.length)   (A1:Option Addr) (c1':Nat) (hs:SliceR 1 (.slice A1 (ps[i]'hi).length c1') (ps[i]'hi).length (ints (ps[i]'hi)) w) (hsl:(ps[i]'hi).length≤4) (hsg:∀ w',Keep (fun k=>k=g) w w'→SliceR 1 (.slice A1 (ps[i]'hi).length c1') (ps[i]'hi).length (ints (ps[i]'hi)) w') (hb:((List.range ps.length).map ((rc.hearing ps.length session sum).setH i).h).contains false=true) :
    Calls Tryz.prog 109 #[.pointer (some ⟨g,0,none⟩),.agg #[.int .i64 1,.int .u64 session,.int .i64 i,.int .i64 ps.length,.int .u32 (sum:Nat),.slice A1 (ps[i]'hi).length c1',.slice none 0 0]] w fun e w'=>e=.returned (.slice none 0 0)∧∃ A c G',RCell g (((rc.hearing ps.length session sum).setH i).setZ i ⟨A,(ps[i]'hi).length,c⟩) w'∧Hear (((rc.hearing ps.length session sum).setH i).setZ i ⟨A,(ps[i]'hi).length,c⟩) ps G' w'∧Keep (fun k=>k=g) w w'∧∀ k,G' k→NoB k∨w.heap.size≤k:=by
 have hg0:=(Keep.refl NoB w).alloc (.cells #[.int .i64 1,.int .u64 session,.int .i64 i,.int .i64 ps.length,.int .u32 (sum:Nat),.slice A1 (ps[i]'hi).length c1',.slice none 0 0] 46)
 have HZ:=LH (heap_alloc_new w (.cells #[.int .i64 1,.int .u64 session,.int .i64 i,.int .i64 ps.length,.int .u32 (sum:Nat),.slice A1 (ps[i]'hi).length c1',.slice none 0 0] 46))
 have HS:=LH (hs.grow hg0)
 have H:=LH (h.grow hg0)
 have HLT:Hid (g<w.heap.size):=LH h.lt
 have HG:=LH hg0
 have HB:=LH hb
 have HSN:Hid (∀ w',Keep (fun k=>k=g) (w.alloc (.cells #[.int .i64 1,.int .u64 session,.int .i64 i,.int .i64 ps.length,.int .u32 (sum:Nat),.slice A1 (ps[i]'hi).length c1',.slice none 0 0] 46)) w'→SliceR 1 (.slice A1 (ps[i]'hi).length c1') (ps[i]'hi).length (ints (ps[i]'hi)) w'):=LH (fun w' hk=>hsg w' ((hg0.mono (T:=fun k=>k=g) (fun _ h=>h.elim)).trans hk (fun _ h=>.inl h)))
 clear hsg
 have hwi:(i:Int)<4:=by omega
 have hi1:¬ ((ps.length:Int)≤i):=by omega
 clear h hg0 hs hb
 go_enter Tryz.func109,Tryz.ntmps109
 obtain ⟨z0,z1,z2,z3,z4,z5,z6,zf⟩:=zC HZ.out
 obtain ⟨c0,c1,c2,c3,c4,c5,c6,c7,c8,c9,c10,c11,c12,c13,c14,c15,c16,c17,c18,c19,c20,cf⟩:=zH H.out
 rw [hpt] at c0
 rw [hph] at c6
 go_wp2
 have HGN:Hid (¬ w.heap.size=g):=LH (fun e=>by have:=HLT.out;omega)
 generalize w.alloc (.cells #[.int .i64 1,.int .u64 session,.int .i64 i,.int .i64 ps.length,.int .u32 (sum:Nat),.slice A1 (ps[i]'hi).length c1',.slice none 0 0] 46)=w1 at H HG HZ HS HSN ⊢
 clear c0 c1 c2 c3 c4 c5 c6 c7 c8 c9 c10 c11 c12 c13 c14 c15 c16 c17 c18 c19 c20 cf z0 z1 z2 z3 z4 z5 z6 zf
 obtain ⟨z0,z1,z2,z3,z4,z5,z6,zf⟩:=zC HZ.out
 obtain ⟨c0,c1,c2,c3,c4,c5,c6,c7,c8,c9,c10,c11,c12,c13,c14,c15,c16,c17,c18,c19,c20,cf⟩:=zH H.out
 refine ze (fun k=>k=g) [0,1,2,3,4,5,6,7,8,9,10,11,12,13,14,15,16,17,18,19,20,21,22] [13,16,19,22] [5,7,9] [] rfl (by kernel_rfl) ?_
 iterate 5
  refine ord_p ?_
 refine oc1 z1 ?_ (s0:=HGN.out)
 refine ord_p ?_
 refine oc1 z4 ?_ (s0:=HGN.out)
 refine ord_p ?_
 refine oc1 z3 ?_ (s0:=HGN.out)
 iterate 3
  refine ord_p ?_
 refine zJ rfl rfl rfl rfl ?_ ?_ ?_ ?_
 rotate_left
 ·go_simp;with_reducible rfl
 ·exact fun _=>zV _ _ _ _
 iterate 2
  refine ord_p ?_
 refine zJ rfl rfl rfl rfl ?_ ?_ ?_ ?_
 rotate_left
 ·go_simp;with_reducible rfl
 ·exact fun _=>zV _ _ _ _
 iterate 2
  refine ord_p ?_
 refine zJ rfl rfl rfl rfl ?_ ?_ ?_ ?_
 rotate_left
 ·go_simp;with_reducible rfl
 ·exact fun _=>zV _ _ _ _
 iterate 2
  refine ord_p ?_
 have hp1:=H.out.put (d':={ rc with phase:=1 }) 6 (.int .i64 1) rfl
 have hp2:=hp1.1.put (d':={ rc with phase:=1,session:=session }) 8 (.int .u64 session) rfl
 have hp3:=hp2.1.put (d':={ rc with phase:=1,session:=session,sum:=sum }) 9 (.int .u32 (sum:Nat)) rfl
 have hp4:=(show RCell g { rc with phase:=1,session:=session,sum:=sum } (((w1.setCell ⟨g,6,none⟩ (.int .i64 1)).setCell ⟨g,8,none⟩ (.int .u64 session)).setCell ⟨g,9,none⟩ (.int .u32 (sum:Nat))).drew from hp3.1)
 refine zsB rfl rfl rfl rfl _ _ _ rfl g 10 #[.int .i64 ps.length,qL,qL,qL,qL,qI,qI,qI,qI] rfl rfl _ _ (rc.hearing ps.length session sum).cs hp4 zXC (by simp [RC.cs]) rfl (by simp [Value.oneCell']) (fun _=>(Keep.refl (fun k=>k=g) _).setRow (.inl rfl) _) ?_
 have hr4:=setRow_heap _ g _ (rc.hearing ps.length session sum).cs _ _ hp4
 have hk4:=((((Keep.refl (fun k=>k=g) w1).trans hp1.2 (fun _ h=>.inl h)).trans hp2.2 (fun _ h=>.inl h)).trans hp3.2 (fun _ h=>.inl h)).drew.setRow (.inl rfl) (rc.hearing ps.length session sum).cs
 refine zD ?_
 replace HZ:=LH ((hk4.block _ (gE HZ.out).1 HGN.out).trans HZ.out)
 have hgs:Hid (∀ k,(Value.slice A1 (ps[i]'hi).length c1').ownBlock=some k→True):=LH (fun _ _=>trivial)
 replace HS:=LH (HSN.out _ hk4)
 replace HG:=LH ((HG.out.mono (T:=fun k=>k=g) (fun _ h=>h.elim)).trans hk4 (fun _ h=>.inl h))
 have HR4:=LH hr4
 clear hp1 hp2 hp3 hp4 hr4 hk4 hgs HSN H c0 c1 c2 c3 c4 c5 c6 c7 c8 c9 c10 c11 c12 c13 c14 c15 c16 c17 c18 c19 c20 cf z0 z1 z2 z3 z4 z5 z6 zf
 generalize World.setRow (((w1.setCell ⟨g,6,none⟩ (.int .i64 1)).setCell ⟨g,8,none⟩ (.int .u64 session)).setCell ⟨g,9,none⟩ (.int .u32 (sum:Nat))).drew g (rc.hearing ps.length session sum).cs=w9 at HR4 HG HZ HS ⊢
 have H:Hid (RCell g (rc.hearing ps.length session sum) w9):=LH HR4.out
 clear HR4
 obtain ⟨z0,z1,z2,z3,z4,z5,z6,zf⟩:=zC HZ.out
 obtain ⟨c0,c1,c2,c3,c4,c5,c6,c7,c8,c9,c10,c11,c12,c13,c14,c15,c16,c17,c18,c19,c20,cf⟩:=zH H.out
 rw [show (rc.hearing ps.length session sum).of=(ps.length:Int) from rfl] at c10
 have ch:=H.out.h_cell i (by omega)
 rw [show (rc.hearing ps.length session sum).h i=false from by unfold RC.h RC.hearing;split <;> rfl] at ch
 go_wp2
 refine zE [0,1,2,3,4,5,6,7,8,9,10,11,12,13,14,15] [] [1,5,10,14] [] rfl (by kernel_rfl) ?_
 refine ord_p ?_
 refine oc1 z3 ?_
 iterate 3
  refine ord_p ?_
 refine oc1 c10 ?_
 iterate 2
  refine ord_p ?_
 iterate 2
  refine zT ?_
 refine oc1G z2 ?_
 iterate 3
  refine zT ?_
 refine oc1G ch ?_
 refine ord_p ?_
 refine zD ?_
 clear z0 z1 z2 z3 z4 z5 z6 zf c0 c1 c2 c3 c4 c5 c6 c7 c8 c9 c10 c11 c12 c13 c14 c15 c16 c17 c18 c19 c20 cf ch
 replace H:=LH ((show RCell g (rc.hearing ps.length session sum) w9.drew from H.out))
 replace HG:=LH (HG.out.drew)
 replace HZ:=LH ((show w9.drew.heap[_]? = _ from HZ.out))
 replace HS:=LH (HS.out.grow (Keep.refl NoB w9).drew)
 generalize w9.drew=w2 at H HG HZ HS ⊢
 obtain ⟨z0,z1,z2,z3,z4,z5,z6,zf⟩:=zC HZ.out
 go_wp2
 refine ze (fun k=>k=g) [0,1,2,3,4,5,6,7,9,10,13,14,8,11,12,15,16] [8,12,16] [2,5,7] [] rfl (by kernel_rfl) ?_
 iterate 2
  refine ord_p ?_
 refine oc1 z2 ?_ (s0:=HGN.out)
 iterate 2
  refine ord_p ?_
 refine oc1 z2 ?_ (s0:=HGN.out)
 refine ord_p ?_
 refine oc1 z5 ?_ (s0:=HGN.out)
 iterate 4
  refine ord_p ?_
 refine zG rfl rfl rfl rfl rfl Tryz.func178 rfl rfl [.slice A1 (ps[i]'hi).length c1'] rfl ?_
 refine (zEA _ (ps[i]'hi) w2.drew (HS.out.grow (Keep.refl NoB w2).drew) (by omega)).mono ?_
 rintro e w3 ⟨A5,c5,rfl,ho5,hg5⟩
 refine ⟨_,rfl,fun _=>hg5.mono (fun _ h=>h.elim),?_⟩
 simp only [Act.put,pB,pC,pD]
 have h3:RCell g (rc.hearing ps.length session sum) w3:=H.out.grow ((Keep.refl NoB w2).drew.grow hg5)
 have ch:=h3.h_cell i (by omega)
 have cf:∀ o,w3.frozen? ⟨g,o,none⟩=false:=fun o=>zN o h3
 refine ord_p ?_
 refine zJ rfl rfl rfl rfl ?_ ?_ ?_ ?_
 rotate_left
 ·go_simp;with_reducible rfl
 ·exact fun _=>zV _ _ _ _
 have h4':=h3.put (d':=(rc.hearing ps.length session sum).setH i) (11+i) (.bool true) (RC.setH_cs _ i (by omega))
 have cz:=h4'.1.z_cell i (by omega)
 have cf2:∀ o,(w3.setCell ⟨g,11+i,none⟩ (.bool true)).frozen? ⟨g,o,none⟩=false:=fun o=>zN o h4'.1
 refine ord_p ?_
 refine zJ rfl rfl rfl rfl ?_ ?_ ?_ ?_
 rotate_left
 ·go_simp;with_reducible rfl
 ·exact fun _=>zV _ _ _ _
 have h5':=h4'.1.put (d':=((rc.hearing ps.length session sum).setH i).setZ i ⟨A5,(ps[i]'hi).length,c5⟩) (15+i) (.slice A5 (ps[i]'hi).length c5) (RC.setZ_cs _ i (by omega) ⟨A5,(ps[i]'hi).length,c5⟩)
 refine zD ?_
 have hkg:=h4'.2.trans h5'.2 (fun _ h=>.inl h)
 have hgr3:=(Keep.refl NoB w2).drew.grow hg5
 have hw2:=HG.out.size
 have hdw:w2.drew.heap.size=w2.heap.size:=rfl
 have hng:∀ k,(Value.slice A5 (ps[i]'hi).length c5).ownBlock=some k→¬ k=g:=fun k hk e=>by have:=(ho5.lt k hk).1;have:=HLT.out;omega
 have HO5:=LH (zF ho5 hkg hng)
 have HO5s:Hid (∀ k,(Value.slice A5 (ps[i]'hi).length c5).ownBlock=some k→w.heap.size≤k):=LH (fun k hk=>by have:=(ho5.lt k hk).1;omega)
 have HHE:=LH (Hear.none (rc:=(rc.hearing ps.length session sum)) (ps:=ps) (fun j=>by unfold RC.h RC.hearing;split <;> rfl) ((w3.setCell ⟨g,11+i,none⟩ (.bool true)).setCell ⟨g,15+i,none⟩ (.slice A5 (ps[i]'hi).length c5)))
 replace HHE:=LH (HHE.out.more i hi h4 HO5.out)
 have HKG:=LH ((HG.out.grow hgr3).trans hkg (fun _ h=>.inl h))
 have HNZ:=LH (And.intro h5'.1 hkg)
 clear ho5 hg5 h3 ch cf h4' cz cf2 h5' hkg hgr3 hw2 hdw hng z0 z1 z2 z3 z4 z5 z6 zf HO5
 obtain ⟨w5,hw5⟩:∃ w5,((w3.setCell ⟨g,11+i,none⟩ (.bool true)).setCell ⟨g,15+i,none⟩ (.slice A5 (ps[i]'hi).length c5))=w5:=⟨_,rfl⟩
 rw [hw5] at HHE HKG HNZ ⊢
 replace H:=LH HNZ.out.1
 have HBS:Hid (((List.range ps.length).map (((rc.hearing ps.length session sum).setH i).setZ i ⟨A5,(ps[i]'hi).length,c5⟩).h).contains false=true):=LH (by rw [RC.setZ_h];exact HB.out)
 have hrest:=RC.set_rest (rc.hearing ps.length session sum) i (by omega) ⟨A5,(ps[i]'hi).length,c5⟩
 have HPOST:Hid (∃ A c G',RCell g (((rc.hearing ps.length session sum).setH i).setZ i ⟨A,(ps[i]'hi).length,c⟩) w5.drew∧Hear (((rc.hearing ps.length session sum).setH i).setZ i ⟨A,(ps[i]'hi).length,c⟩) ps G' w5.drew∧Keep (fun k=>k=g) w w5.drew∧∀ k,G' k→NoB k∨w.heap.size≤k):=LH ⟨A5,c5,_,H.out,HHE.out.keep (Keep.refl NoB w5).drew (fun _ _ h=>h),HKG.out.drew,fun k hk=>hk.imp id (HO5s.out k)⟩
 obtain ⟨rc2,hrc2⟩:∃ r,((rc.hearing ps.length session sum).setH i).setZ i ⟨A5,(ps[i]'hi).length,c5⟩=r:=⟨_,rfl⟩
 rw [hrc2] at H HHE HBS hrest
 have HRST:=LH hrest
 have hof2:rc2.of=ps.length:=by rw [hrest];rfl
 clear HNZ hw5 hrc2 hrest HB HZ HS HG
 obtain ⟨c0,c1,c2,c3,c4,c5,c6,c7,c8,c9,c10,c11,c12,c13,c14,c15,c16,c17,c18,c19,c20,cf⟩:=zH H.out
 rw [hof2] at c10
 go_wp2
 have hC:=zFA _ _ HBS.out (some ⟨g,11,none⟩) 4 w5.drew (by have:=(show RCell g rc2 w5.drew from H.out).heardR ps.length h4;rw [List.length_map,List.length_range];exact this) (by rw [List.length_map,List.length_range];omega)
 rw [List.length_map,List.length_range] at hC
 have HC:=LH hC
 clear hC
 have hpl:(ps.length:Int)≤4:=by omega
 refine zE [0,1,2,3,4,5,6,7,8] [8] [6] [] rfl (by kernel_rfl) ?_
 iterate 6
  refine ord_p ?_
 refine oc1 c10 ?_
 refine ord_p ?_
 refine zG rfl rfl rfl rfl rfl Tryz.func179 rfl rfl [.slice (some ⟨g,11,none⟩) ps.length 4,.bool false] rfl ?_
 refine HC.out.mono ?_
 rintro e w6 ⟨rfl,rfl⟩
 refine ⟨_,rfl,fun _=>Keep.refl _ _,?_⟩
 simp only [Act.put,pB,pC,pD]
 refine zD ?_
 clear HC c0 c1 c2 c3 c4 c5 c6 c7 c8 c9 c10 c11 c12 c13 c14 c15 c16 c17 c18 c19 c20 cf
 go_wp2
 go_ret
 exact ⟨rfl,HPOST.out⟩
end Go.Proofs.YtfkcpaahdlkcdaaGreat

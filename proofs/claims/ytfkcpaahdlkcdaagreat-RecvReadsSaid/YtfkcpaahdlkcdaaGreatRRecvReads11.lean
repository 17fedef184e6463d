import Derived.Test.YtfkcpaahdlkcdaaGreatRRecvReads07
set_option linter.unusedSimpArgs false
set_option linter.unusedVariables false
set_option maxRecDepth 100000
set_option maxHeartbeats 16000000
namespace Go.Proofs.YtfkcpaahdlkcdaaGreat
open Go.RowKit Go.Shelf
attribute [local go_sem] Oper.semAt_some
theorem zEA (v:Value) (l:List Int) (w:World) (h:SliceR 1 v l.length (ints l) w) (hl:l.length≤1000000) :
    Calls Tryz.prog 178 #[v] w fun e w'=>∃ A c,e=.returned (.slice A l.length c)∧w'.ownsRow w.heap.size 3 1 (.slice A l.length c) l.length (ints l)∧Grow w w':=by
 have Hs:=LH ((h.grow ((Keep.refl _ _).alloc (.cells #[] 3))).src ziA (zkD l))
 have HL:=LH hl
 clear hl
 have hq:=zVE ziA
 obtain ⟨A,c,rfl,hlc,_,hA,_⟩:=h
 cases A with
 | none =>
  have h0:l=[]:=List.eq_nil_of_length_eq_zero (by have:=hA rfl;omega)
  subst h0
  go_enter Tryz.func178,Tryz.ntmps178
  go_wp2
  go_ret
  exact ⟨none,0,rfl,World.ownsRow_nil _ _ _ _,Keep.refl _ _⟩
 | some ad =>
  go_enter Tryz.func178,Tryz.ntmps178
  go_wp2_with (at_builtin;refine zL _ rfl _ _ 37 37 rfl w.heap.size 3 (.int .i64 0) 1 8 ziA zUB rfl (.slice (some ⟨w.heap.size,0,none⟩) 0 0) 0 [] rfl (.slice (some ad) l.length c) l.length (ints l) rfl ?_ ?c0 ?c1 ?c2 ?c3 ?c4;intro v' w' hap)
  case c0=>exact World.ownsRow_made w #[] 0 (Nat.le_refl _) (by simp [maxLen]) rfl
  case c1=>exact Hs.out
  case c2=>have:=HL.out;simp only [maxLen];omega
  case c3=>have:=HL.out;omega
  case c4=>simp
  have ho:=hap.own
  simp only [Nat.zero_add,List.nil_append] at ho
  have hg:=((Keep.refl NoB w).alloc (.cells #[] 3)).grown hap.grew (by simp [Value.ownBlock])
  clear hap
  obtain ⟨A,c2,rfl,_⟩:=zK ho
  go_wp2
  go_ret
  exact ⟨_,_,rfl,ho,hg⟩
end Go.Proofs.YtfkcpaahdlkcdaaGreat
namespace Go.Proofs.YtfkcpaahdlkcdaaGreat
open Go.RowKit
def makeB (n:Nat):List Int:=List.replicate ((n+7)/8) 0
def getB (bs:List Int) (i:Nat):Bool:=((bs.getD (i/8) 0).toNat).testBit (i%8)
def setB (bs:List Int) (i:Nat):List Int:=bs.set (i/8) (((bs.getD (i/8) 0).toNat ||| 2 ^ (i%8):Nat):Int)
def OkB (bs:List Int):Prop:=∀ c∈bs,0≤c∧c≤255
theorem zQB (n:Nat):(makeB n).length=(n+7)/8:=by simp [makeB]
theorem zCC (bs:List Int) (i:Nat):(setB bs i).length=bs.length:=by simp [setB]
theorem OkB.make (n:Nat):OkB (makeB n):=by
 intro c hc
 have:=List.eq_of_mem_replicate hc
 omega
theorem OkB.getD {bs:List Int} (h:OkB bs) (k:Nat):0≤bs.getD k 0∧bs.getD k 0≤255:=by
 by_cases hk:k<bs.length
 ·rw [List.getD_eq_getElem?_getD,List.getElem?_eq_getElem hk]
  exact h _ (List.getElem_mem hk)
 ·rw [List.getD_eq_getElem?_getD,List.getElem?_eq_none (by omega)]
  simp
theorem zWK {a:Nat} (h:a<256) (r:Nat) (hr:r<8):a ||| 2 ^ r<256 :=
 Nat.or_lt_two_pow (n:=8) h (Nat.pow_lt_pow_right (by omega) hr)
theorem OkB.set {bs:List Int} (h:OkB bs) (i:Nat):OkB (setB bs i):=by
 intro c hc
 rcases List.mem_or_eq_of_mem_set hc with hc | rfl
 ·exact h c hc
 ·have:=h.getD (i/8)
  have:=zWK (a:=(bs.getD (i/8) 0).toNat) (by omega) (i%8) (by omega)
  omega
theorem zwC (n i:Nat):getB (makeB n) i=false:=by
 unfold getB makeB
 rw [List.getD_eq_getElem?_getD,List.getElem?_replicate]
 split <;> simp
theorem zXB (bs:List Int) (i j:Nat):getB (setB bs i) j=((decide (j=i∧i/8<bs.length))||getB bs j):=by
 unfold getB setB
 by_cases hk:i/8<bs.length
 ·by_cases he:j/8=i/8
  ·rw [he,List.getD_eq_getElem?_getD,List.getElem?_set_self hk]
   simp only [Option.getD_some,Int.toNat_natCast,Nat.testBit_or,Nat.testBit_two_pow]
   by_cases hr:j%8=i%8
   ·have:j=i:=by omega
    subst this
    simp [hk]
   ·have:¬ (j=i):=by intro e;exact hr (by rw [e])
    have hr2:¬ (i%8=j%8):=fun e=>hr e.symm
    simp [this,hr2]
  ·have:¬ (j=i):=by intro e;exact he (by rw [e])
   rw [List.getD_eq_getElem?_getD,List.getElem?_set_ne (fun e=>he e.symm),← List.getD_eq_getElem?_getD]
   simp [this]
 ·rw [List.set_eq_of_length_le (by omega)]
  simp [hk]
theorem zDC (n:Nat) (hn:n≤65536) (w:World) :
    Calls Tryz.prog 66 #[.int .i64 n] w fun e w'=>∃ A c,e=.returned (.slice A (makeB n).length c)∧Grow w w'∧w'.ownsRow w.heap.size 5 1 (.slice A (makeB n).length c) (makeB n).length (u8s (makeB n)):=by
 obtain ⟨ib,hib,hb1,hb2,hb3⟩:∃ i,Tryz.prog.info? 5=some i∧i.zero=some (.int .u8 0)∧i.size=1∧i.bytes=1:=by
  have h:=zz
  cases hi:Tryz.prog.info? 5 with
  | none=>rw [hi] at h;cases h
  | some i =>
   rw [hi] at h
   simp only [Option.map_some,Option.some.injEq,Prod.mk.injEq] at h
   exact ⟨i,rfl,h.1,h.2.1,h.2.2⟩
 rcases Nat.eq_zero_or_pos n with h00 | hn0
 ·subst h00
  have hmin:min ((0:Nat):Int) 65536=0:=by omega
  go_enter Tryz.func66,Tryz.ntmps66
  go_wp2_with fail
  refine (zBC 0 _ (by omega)).mono ?_
  rintro e w1 ⟨rfl,rfl⟩
  generalize hm:(0+7)/8=m at *
  go_wp2_with (at_make;refine wpList_make_full _ rfl _ _ _ rfl w.heap.size 5 ib (.int .u8 0) 1 zW hib hb1 hb2 _ _ _ _ m rfl rfl rfl rfl (by rw [hb3];omega) (by simp [maxLen];omega) (Nat.le_refl _) ?_;intro w2 hown hgr)
  go_ret
  have h0:(madeCells (Value.int .u8 0).cells (m*1)).toList=u8s (List.replicate m 0):=by
   apply List.ext_getElem (by simp [u8s,madeCells,Value.cells])
   intro j h1 h2
   simp [u8s,madeCells,Value.cells,Nat.mod_one]
  rw [h0] at hown
  have hml:(makeB 0).length=m:=by rw [zQB];exact hm
  have hme:makeB 0=List.replicate m 0:=by unfold makeB;rw [hm]
  rw [hml,hme]
  exact ⟨_,m,rfl,(Keep.refl NoB w).grown hgr (by simp),hown⟩
 ·
  have hmin:min ((n:Nat):Int) 65536=n:=by omega
  go_enter Tryz.func66,Tryz.ntmps66
  go_wp2_with fail
  refine (zBC n _ (by omega)).mono ?_
  rintro e w1 ⟨rfl,rfl⟩
  generalize hm:(n+7)/8=m at *
  go_wp2_with (at_make;refine wpList_make_full _ rfl _ _ _ rfl w.heap.size 5 ib (.int .u8 0) 1 zW hib hb1 hb2 _ _ _ _ m rfl rfl rfl rfl (by rw [hb3];omega) (by simp [maxLen];omega) (Nat.le_refl _) ?_;intro w2 hown hgr)
  go_ret
  have h0:(madeCells (Value.int .u8 0).cells (m*1)).toList=u8s (List.replicate m 0):=by
   apply List.ext_getElem (by simp [u8s,madeCells,Value.cells])
   intro j h1 h2
   simp [u8s,madeCells,Value.cells,Nat.mod_one]
  rw [h0] at hown
  have hml:(makeB n).length=m:=by rw [zQB];exact hm
  have hme:makeB n=List.replicate m 0:=by unfold makeB;rw [hm]
  rw [hml,hme]
  exact ⟨_,m,rfl,(Keep.refl NoB w).grown hgr (by simp),hown⟩
theorem zCM (bs:List Int) (hb:OkB bs) (i:Nat) (hk:i/8<bs.length):(bits .and .u8 (bs[i/8]/2 ^ (i%8)) 1==1)=getB bs i:=by
 have hx:=hb _ (List.getElem_mem hk)
 unfold getB
 rw [List.getD_eq_getElem?_getD,List.getElem?_eq_getElem hk,Option.getD_some]
 generalize bs[i/8]=x at hx ⊢
 obtain ⟨m,rfl⟩:∃ m:Nat,x=m:=⟨x.toNat,by omega⟩
 have h2:((m:Int)/2 ^ (i%8))=((m/2 ^ (i%8):Nat):Int):=by push_cast;rfl
 have hlt:m/2 ^ (i%8)<256:=Nat.lt_of_le_of_lt (Nat.div_le_self ..) (by omega)
 have h1:=u8_and_nat (m/2 ^ (i%8)) 1 hlt (by decide)
 rw [Nat.and_one_is_mod] at h1
 rw [h2,show (1:Int)=((1:Nat):Int) from rfl,h1,Int.toNat_natCast,Nat.testBit_eq_decide_div_mod_eq]
 by_cases h:m/2 ^ (i%8)%2=1
 ·simp [h]
 ·have:¬ (((m/2 ^ (i%8)%2:Nat):Int)=((1:Nat):Int)):=by omega
  rw [beq_eq_false_iff_ne.2 this,decide_eq_false h]
theorem zhA (A:Option Addr) (c:Nat) (bs:List Int) (hb:OkB bs) (i:Nat) (hi:i≤1000000) (w:World) (h:SliceR 1 (.slice A bs.length c) bs.length (u8s bs) w) :
    Calls Tryz.prog 82 #[.slice A bs.length c,.int .i64 i] w fun e w'=>e=.returned (.bool (getB bs i))∧w=w':=by
 by_cases hk:i/8<bs.length
 ·obtain ⟨ad,rfl,q1⟩:=SliceR.int_at (k:=.u8) h (i/8) hk
  have hx:=hb _ (List.getElem_mem hk)
  have hk':((i/8:Nat):Int)<bs.length:=by omega
  have HE:=LH (zCM bs hb i hk)
  clear h
  go_enter Tryz.func82,Tryz.ntmps82
  go_wp2
  go_ret
  exact ⟨by rw [← HE.out];rfl,rfl⟩
 ·have hk':¬ (((i/8:Nat):Int)<bs.length):=by omega
  have HE:Hid (false=getB bs i):=LH (by
   unfold getB
   rw [List.getD_eq_getElem?_getD,List.getElem?_eq_none (by omega)]
   simp)
  go_enter Tryz.func82,Tryz.ntmps82
  go_wp2
  go_ret
  exact ⟨by rw [← HE.out];rfl,rfl⟩
theorem zDM (bs:List Int) (hb:OkB bs) (i:Nat) (hk:i/8<bs.length):bits .or .u8 bs[i/8] (IntKind.u8.wrap (2 ^ (i%8)))=(((bs.getD (i/8) 0).toNat ||| 2 ^ (i%8):Nat):Int):=by
 have hx:=hb _ (List.getElem_mem hk)
 rw [List.getD_eq_getElem?_getD,List.getElem?_eq_getElem hk,Option.getD_some]
 generalize bs[i/8]=x at hx ⊢
 obtain ⟨m,rfl⟩:∃ m:Nat,x=m:=⟨x.toNat,by omega⟩
 have hp:2 ^ (i%8)<256:=Nat.pow_lt_pow_right (m:=i%8) (n:=8) (by omega) (by omega)
 have hc:((2:Int) ^ (i%8))=((2 ^ (i%8):Nat):Int):=by push_cast;rfl
 have hw:IntKind.u8.wrap ((2 ^ (i%8):Nat):Int)=((2 ^ (i%8):Nat):Int):=by
  generalize 2 ^ (i%8)=p at hp
  exact IntWalk.u8_in _ (by omega)
 rw [hc,hw,u8_or_nat m (2 ^ (i%8)) (by omega) hp,Int.toNat_natCast]
theorem zII (A:Option Addr) (c:Nat) (bs:List Int) (hb:OkB bs) (hlen:bs.length≤100000) (i:Nat) (hi:i≤1000000) (w:World) (h:SliceR 1 (.slice A bs.length c) bs.length (u8s bs) w) :
    Calls Tryz.prog 121 #[.slice A bs.length c,.int .i64 i] w fun e w'=>∃ A c,e=.returned (.slice A (setB bs i).length c)∧Grow w w'∧w'.ownsRow w.heap.size 5 1 (.slice A (setB bs i).length c) (setB bs i).length (u8s (setB bs i)):=by
 rw [zCC]
 have H:=LH h
 have HB:=LH hb
 have hi0:(0:Int)≤i:=by omega
 clear h hb
 go_enter Tryz.func121,Tryz.ntmps121
 go_wp2_with fail
 refine (zlB _ bs w H.out (by omega)).mono ?_
 rintro e w1 ⟨A1,c1,rfl,ho,hg⟩
 have HO:=LH ho
 have HG:=LH hg
 clear ho hg
 by_cases hk:i/8<bs.length
 ·have hk':((i/8:Nat):Int)<bs.length:=by omega
  obtain ⟨r,c2,e,_,_,hcs⟩:=zMA HO.out (by omega)
  injection e with e1 e2 e3
  subst e1
  have q1:w1.cell? ⟨r,i/8,none⟩=some (.int .u8 bs[i/8]):=by
   have:=hcs (i/8) (.int .u8 bs[i/8]) (by simp [u8s,hk])
   simpa using this
  have f1:w1.frozen? ⟨r,i/8,none⟩=false:=HO.out.frozenAt _
  have hx:=HB.out _ (List.getElem_mem hk)
  have HCS:=LH hcs
  clear hcs
  have hwq:IntKind.i64.wrap ((i:Int)/8)=(i:Int)/8:=IntWalk.i64_in _ (by omega)
  have hq0:0≤(i:Int)/8:=by omega
  have htm:((i:Int)).tmod 8=(i:Int)%8:=Int.tmod_eq_emod_of_nonneg hi0
  have hr0:0≤(i:Int)%8:=by omega
  have hr8:(i:Int)%8≤8:=by omega
  have hqn:((i:Int)/8).toNat=i/8:=by omega
  have hrn:((i:Int)%8).toNat=i%8:=by omega
  go_wp2
  refine zE [0,1,2,3,4,5,6,7,8,9,10] [10] [4] [10] rfl (by kernel_rfl) ?_
  iterate 4
   refine ord_p ?_
  refine oc1 q1 ?_
  iterate 5
   refine ord_p ?_
  refine zJ rfl rfl rfl rfl ?_ ?_ (fun h=>absurd (by simp) h) ?_
  rotate_left
  ·go_simp;with_reducible rfl
  refine zD ?_
  have hst:=HO.out.stored (i/8) (.int .u8 (bits .or .u8 bs[i/8] (IntKind.u8.wrap (2 ^ (i%8)))))
  rw [zeH] at hst
  have HS:=LH hst.1
  have hgs:=HG.out.setCell (p:=⟨r,i/8,none⟩) (.inr (HO.out.lt r rfl).1) (.int .u8 (bits .or .u8 bs[i/8] (IntKind.u8.wrap (2 ^ (i%8)))))
  have HGS:=LH hgs
  clear hst hgs
  go_wp2
  go_ret
  refine ⟨_,_,rfl,HGS.out.drew,?_⟩
  unfold setB
  rw [← zDM bs HB.out i hk,← e3]
  exact HS.out
 ·have hk':¬ (((i/8:Nat):Int)<bs.length):=by omega
  go_wp2
  go_ret
  have:setB bs i=bs:=List.set_eq_of_length_le (by omega)
  rw [this]
  exact ⟨A1,c1,rfl,HG.out,HO.out⟩
theorem zV (B o:Nat) (w:World) (v:Value):Keep (fun k=>k=B) w (w.setCell ⟨B,o,none⟩ v):=(Keep.refl (fun k=>k=B) w).setCell (p:=⟨B,o,none⟩) (.inl rfl) v
theorem keep7 (w4:World) (T:Nat) (v0 v1 v2 v3 v4 v5 v6:Value):Keep (fun k=>k=T) w4 (((((((w4.setCell ⟨T,0,none⟩ v0).setCell ⟨T,1,none⟩ v1).setCell ⟨T,2,none⟩ v2).setCell ⟨T,3,none⟩ v3).setCell ⟨T,4,none⟩ v4).setCell ⟨T,5,none⟩ v5).setCell ⟨T,6,none⟩ v6) :=
 (((((((Keep.refl (fun k=>k=T) w4).setCell (p:=⟨T,0,none⟩) (.inl rfl) v0).setCell (p:=⟨T,1,none⟩) (.inl rfl) v1).setCell (p:=⟨T,2,none⟩) (.inl rfl) v2).setCell (p:=⟨T,3,none⟩) (.inl rfl) v3).setCell (p:=⟨T,4,none⟩) (.inl rfl) v4).setCell (p:=⟨T,5,none⟩) (.inl rfl) v5).setCell (p:=⟨T,6,none⟩) (.inl rfl) v6
theorem Foot.cell_mem {P:World→Prop} {W:World} {F:Nat→Prop} (h:Foot P W F) {p:Addr} (hp:∀ W',P W'→∃ v,W'.cell? p=some v):F p.block:=by
 by_cases hF:F p.block
 ·exact hF
 ·exfalso
  obtain ⟨v,hv⟩:=hp { W with heap:=W.heap.setIfInBounds p.block (.map #[] 0) } (h.2 _ (fun k hk=>by
   have:p.block≠k:=fun e=>hF (e ▸ hk)
   simp [Array.getElem?_setIfInBounds,this]))
  unfold World.cell? at hv
  rw [Array.getElem?_setIfInBounds_self] at hv
  split at hv
  ·rename_i hq
   split at hq <;> simp at hq
  ·simp at hv
theorem zUA (x:Int) (f n:Nat) (F N:Int) (w:World) (hx:0≤x) (hx2:x≤18446744073709551615) (hf:f≤63) (hn:n≤63) (hF:(2:Int) ^ f=F) (hN:(2:Int) ^ n=N) :
    Calls Tryz.prog 199 #[.int .u64 x,.int .i64 f,.int .i64 n] w fun e w'=>e=.returned (.int .u64 (x/F%N))∧w=w':=by
 subst hF hN
 exact zfD x f n w hx hx2 hf hn
def RDecPost (x:Int) (w:World) (e:Ending) (w':World):Prop:=e=.returned (.tuple #[.agg (ptrDec x).1,.int .i64 (ptrDec x).2])∧Grow w w'
theorem zbK (w:World):Calls Tryz.prog 129 #[qN] w (RDecPost 0 w):=by
 go_enter Tryz.func129,Tryz.ntmps129
 go_wp2
 refine bodyPost_ret (v:=.tuple #[.agg qB,qJ]) ?_ rfl ⟨rfl,(Keep.refl NoB _).alloc _⟩
 rw [results_cell_tmp rfl];go_simp
theorem zAH (x:Int) (w:World) (hx:0≤x) (hx2:x≤18446744073709551615) (h0:¬ x=0) (hm:x%4=0):Calls Tryz.prog 129 #[.int .u64 x] w (RDecPost x w):=by
 have h0b:(x==0)=false:=beq_eq_false_iff_ne.2 h0
 have m0:(x%4==0)=true:=by rw [beq_iff_eq];omega
 have m1:(x%4==1)=false:=by rw [beq_eq_false_iff_ne];omega
 have m2:(x%4==2)=false:=by rw [beq_eq_false_iff_ne];omega
 have HE:Hid (ptrDec x=(⟨1,sg30 (x/4%1073741824),x/4294967296%65536,x/281474976710656%65536,0,0,0,false⟩,0)):=LH (by unfold ptrDec;rw [if_neg h0,if_pos hm])
 clear hm h0
 go_enter Tryz.func129,Tryz.ntmps129
 go_wp2_with fail
 refine (zUA x 2 30 4 1073741824 _ hx hx2 (by omega) (by omega) (by decide) (by decide)).mono ?_
 rintro e w1 ⟨rfl,rfl⟩
 go_wp2_with fail
 refine (zHB (x/4%1073741824) _ (by omega) (by omega)).mono ?_
 rintro e w2 ⟨rfl,rfl⟩
 go_wp2_with fail
 refine (zUA x 32 16 4294967296 65536 _ hx hx2 (by omega) (by omega) (by decide) (by decide)).mono ?_
 rintro e w3 ⟨rfl,rfl⟩
 go_wp2_with fail
 refine (zUA x 48 16 281474976710656 65536 _ hx hx2 (by omega) (by omega) (by decide) (by decide)).mono ?_
 rintro e w4 ⟨rfl,rfl⟩
 go_wp2
 refine bodyPost_ret (v:=.tuple #[.agg #[.int .i64 1,.int .i64 (sg30 (x/4%1073741824)),.int .i64 (x/4294967296%65536),.int .i64 (x/281474976710656%65536),qJ,qJ,qJ,qL],.int .i64 0]) ?_ rfl ⟨?_,(Keep.refl NoB _).alloc _⟩
 ·rw [results_cell_tmp rfl];go_simp
 ·rw [HE.out]
theorem zOJ (x:Int) (w:World) (hx:0≤x) (hx2:x≤18446744073709551615) (h0:¬ x=0) (hm:x%4=1):Calls Tryz.prog 129 #[.int .u64 x] w (RDecPost x w):=by
 have h0b:(x==0)=false:=beq_eq_false_iff_ne.2 h0
 have m0:(x%4==0)=false:=by rw [beq_eq_false_iff_ne];omega
 have m1:(x%4==1)=true:=by rw [beq_iff_eq];omega
 have m2:(x%4==2)=false:=by rw [beq_eq_false_iff_ne];omega
 have HE:Hid (ptrDec x=(⟨2,sg30 (x/4%1073741824),0,0,x/4294967296%8,x/34359738368%536870912,0,false⟩,0)):=LH (by unfold ptrDec;rw [if_neg h0,if_neg (by omega),if_pos hm])
 clear hm h0
 go_enter Tryz.func129,Tryz.ntmps129
 go_wp2_with fail
 refine (zUA x 2 30 4 1073741824 _ hx hx2 (by omega) (by omega) (by decide) (by decide)).mono ?_
 rintro e w1 ⟨rfl,rfl⟩
 go_wp2_with fail
 refine (zHB (x/4%1073741824) _ (by omega) (by omega)).mono ?_
 rintro e w2 ⟨rfl,rfl⟩
 go_wp2_with fail
 refine (zUA x 32 3 4294967296 8 _ hx hx2 (by omega) (by omega) (by decide) (by decide)).mono ?_
 rintro e w3 ⟨rfl,rfl⟩
 go_wp2_with fail
 refine (zUA x 35 29 34359738368 536870912 _ hx hx2 (by omega) (by omega) (by decide) (by decide)).mono ?_
 rintro e w4 ⟨rfl,rfl⟩
 go_wp2
 refine bodyPost_ret (v:=.tuple #[.agg #[qQ,.int .i64 (sg30 (x/4%1073741824)),qJ,qJ,.int .i64 (x/4294967296%8),.int .i64 (x/34359738368%536870912),qJ,qL],.int .i64 0]) ?_ rfl ⟨?_,(Keep.refl NoB _).alloc _⟩
 ·rw [results_cell_tmp rfl];go_simp
 ·rw [HE.out]
theorem zcK (x:Int) (w:World) (hx:0≤x) (hx2:x≤18446744073709551615) (h0:¬ x=0) (hm:x%4=2):Calls Tryz.prog 129 #[.int .u64 x] w (RDecPost x w):=by
 have h0b:(x==0)=false:=beq_eq_false_iff_ne.2 h0
 have m0:(x%4==0)=false:=by rw [beq_eq_false_iff_ne];omega
 have m1:(x%4==1)=false:=by rw [beq_eq_false_iff_ne];omega
 have m2:(x%4==2)=true:=by rw [beq_iff_eq];omega
 have HE:Hid (ptrDec x=(⟨3,x/8%536870912,0,0,0,0,x/4294967296%4294967296,(x/4%2==1)⟩,0)):=LH (by unfold ptrDec;rw [if_neg h0,if_neg (by omega),if_neg (by omega),if_pos hm])
 clear hm h0
 go_enter Tryz.func129,Tryz.ntmps129
 go_wp2_with fail
 refine (zUA x 2 30 4 1073741824 _ hx hx2 (by omega) (by omega) (by decide) (by decide)).mono ?_
 rintro e w1 ⟨rfl,rfl⟩
 go_wp2_with fail
 refine (zHB (x/4%1073741824) _ (by omega) (by omega)).mono ?_
 rintro e w2 ⟨rfl,rfl⟩
 go_wp2_with fail
 refine (zUA x 3 29 8 536870912 _ hx hx2 (by omega) (by omega) (by decide) (by decide)).mono ?_
 rintro e w3 ⟨rfl,rfl⟩
 go_wp2_with fail
 refine (zUA x 32 32 4294967296 4294967296 _ hx hx2 (by omega) (by omega) (by decide) (by decide)).mono ?_
 rintro e w4 ⟨rfl,rfl⟩
 go_wp2_with fail
 refine (zUA x 2 1 4 2 _ hx hx2 (by omega) (by omega) (by decide) (by decide)).mono ?_
 rintro e w5 ⟨rfl,rfl⟩
 go_wp2
 refine bodyPost_ret (v:=.tuple #[.agg #[.int .i64 3,.int .i64 (x/8%536870912),qJ,qJ,qJ,qJ,.int .i64 (x/4294967296%4294967296),.bool (x/4%2==1)],.int .i64 0]) ?_ rfl ⟨?_,(Keep.refl NoB _).alloc _⟩
 ·rw [results_cell_tmp rfl];go_simp
 ·rw [HE.out]
theorem zdK (x:Int) (w:World) (hx:0≤x) (hx2:x≤18446744073709551615) (h0:¬ x=0) (hm:x%4=3):Calls Tryz.prog 129 #[.int .u64 x] w (RDecPost x w):=by
 have h0b:(x==0)=false:=beq_eq_false_iff_ne.2 h0
 have m0:(x%4==0)=false:=by rw [beq_eq_false_iff_ne];omega
 have m1:(x%4==1)=false:=by rw [beq_eq_false_iff_ne];omega
 have m2:(x%4==2)=false:=by rw [beq_eq_false_iff_ne];omega
 have HE:Hid (ptrDec x=(pt0,23)):=LH (by unfold ptrDec;rw [if_neg h0,if_neg (by omega),if_neg (by omega),if_neg (by omega)])
 clear hm h0
 go_enter Tryz.func129,Tryz.ntmps129
 go_wp2_with fail
 refine (zUA x 2 30 4 1073741824 _ hx hx2 (by omega) (by omega) (by decide) (by decide)).mono ?_
 rintro e w1 ⟨rfl,rfl⟩
 go_wp2_with fail
 refine (zHB (x/4%1073741824) _ (by omega) (by omega)).mono ?_
 rintro e w2 ⟨rfl,rfl⟩
 go_wp2
 refine bodyPost_ret (v:=.tuple #[.agg qB,.int .i64 23]) ?_ rfl ⟨?_,(Keep.refl NoB _).alloc _⟩
 ·rw [results_cell_tmp rfl];go_simp
 ·rw [HE.out];rfl
theorem zcA (x:Int) (w:World) (hx:0≤x) (hx2:x≤18446744073709551615):Calls Tryz.prog 129 #[.int .u64 x] w (RDecPost x w):=by
 by_cases h0:x=0
 ·subst h0;exact zbK w
 ·rcases (by omega:x%4=0∨x%4=1∨x%4=2∨x%4=3) with h | h | h | h
  ·exact zAH x w hx hx2 h0 h
  ·exact zOJ x w hx hx2 h0 h
  ·exact zcK x w hx hx2 h0 h
  ·exact zdK x w hx hx2 h0 h
theorem zpB (x:Int):0≤IntKind.u64.wrap x∧IntKind.u64.wrap x≤18446744073709551615:=by
 have:IntKind.u64.wrap x=x%18446744073709551616:=rfl
 omega
theorem zDA (x:Int) (n:Nat) (w:World) (hn:n≤63) :
    Calls Tryz.prog 128 #[.int .i64 x,.int .i64 n] w fun e w'=>e=.returned (.int .u64 (IntKind.u64.wrap x%2 ^ n))∧w=w':=by
 obtain ⟨y,hy⟩:∃ y,IntKind.u64.wrap x=y:=⟨_,rfl⟩
 have hb:=zpB x
 rw [hy] at hb ⊢
 go_enter Tryz.func128,Tryz.ntmps128
 go_wp2_with fail
 try rw [hy]
 have hr:=zfD y 0 n w hb.1 hb.2 (by omega) hn
 refine hr.mono ?_
 rintro e w1 ⟨rfl,rfl⟩
 clear hr hy
 go_wp2
 go_ret
 exact ⟨ret_i (by simp),rfl⟩
end Go.Proofs.YtfkcpaahdlkcdaaGreat

import Derived.Test.YtfkcpaahdlkcdaaGreatRRecvReads19
set_option linter.unusedSimpArgs false
set_option linter.unusedVariables false
set_option maxRecDepth 100000
set_option maxHeartbeats 16000000
namespace Go.Proofs.YtfkcpaahdlkcdaaGreat
open Go.RowKit
theorem zoD {n:Nat} {t:Tr} {vw vb vk:Value} {a:List (List Int)} {size:Int} {full:Bool} {A:Option Addr} {c s i:Nat} {w:World} {F:Nat→Prop} (h:TrR w t vw vb vk) (hF:Foot (RowsU a (.slice A a.length c)) w F) (hb:BigA a) (hn:NumA a) (hl:full=false→LimA a) (hk:(t.kind=0∧n=0)∨full=true) :
    Calls Tryz.prog 127 #[.agg #[.slice A a.length c,.int .i64 size,.bool full],.agg #[t.kind,t.size,vw,vb,vk],.int .i64 s,.int .i64 i] w (LayPost n a size full F w):=by
 obtain ⟨A1,c1,A2,c2,A3,c3,rfl,rfl,rfl⟩:=h.parts
 refine (zlK t.kind t.size A1 A2 A3 _ _ _ c1 c2 c3 a.length c A size full s i w (hk.imp (fun h=>h.1) id)).mono ?_
 rintro e w' ⟨rfl,hg⟩
 exact ⟨a,full,A,c,F,rfl,hg,hF.grow hg,fun k hk=>.inl hk,ExtA.refl a,hb,hn,hl,fun h1 h2 h3=>hk.elim (fun h=>⟨h1,h2,by omega⟩) (fun h=>by rw [h] at h1;cases h1)⟩
theorem zpL:∀ l,LayAt l:=by
 intro l
 induction l with
 | zero =>
  intro t vw vb vk a size full A c s i w F h hN hr hF hb hn hl hz0 hz1 hs hi
  refine zoD h hF hb hn hl (.inl ⟨?_,rfl⟩)
  simp only [rightB,Bool.and_eq_true,beq_iff_eq] at hr
  exact hr.2
 | succ l ih =>
  intro t vw vb vk a size full A c s i w F h hN hr hF hb hn hl hz0 hz1 hs hi
  by_cases hfl:full=true
  ·exact zoD h hF hb hn hl (.inr hfl)
  obtain rfl:full=false:=by simpa using hfl
  by_cases hk:t.kind=0
  ·exact zoD h hF hb hn hl (.inl ⟨hk,by rw [needL,if_pos hk]⟩)
  have hlim:=hl rfl
  simp only [rightB,Bool.and_eq_true] at hr
  obtain ⟨ho,hall⟩:=hr
  have hi2:i<a[s].length:=by simpa [hs] using hi
  obtain ⟨A1,c1,A2,c2,A3,c3,rfl,rfl,rfl⟩:=h.parts
  cases h with
  | @mk k z ws bs _ _ _ rows hW hB hR hrr =>
   have hkl:(Tr.mk k z ws bs (rows.map (·.1))).kids.length=rows.length:=by simp [Tr.kids]
   rw [hkl] at hR ⊢
   have hw:=znD ho hk
   rw [hkl] at hw
   simp only [Tr.kind,Tr.size,Tr.ws,Tr.bs] at hk hw hW hB hR hkl ⊢
   have hrn:∀ r,r∈rows→TrN r.1:=fun r hr=>hN.r _ (List.mem_map.2 ⟨r,hr,rfl⟩)
   have hrb:∀ r,r∈rows→rightB l r.1=true:=fun r hr=>List.all_eq_true.1 hall _ (List.mem_map.2 ⟨r,hr,rfl⟩)
   have hws:okW ws:=hN.w
   have hbs:∀ x∈bs,0≤x∧x≤255:=hN.b
   have hcl:needN k ws.length bs.length rows.length=ws.length+(bs.length+7)/8+rows.length:=by
    unfold needN
    rcases hw with ⟨e1,_,e2,_⟩ | ⟨e1,_⟩ | ⟨e1,_⟩ | ⟨e1,_⟩
    ·rw [if_pos e1,e2];omega
    ·rw [if_neg (by omega),if_pos e1];omega
    ·rw [if_neg (by omega),if_pos e1];omega
    ·rw [if_neg (by omega),if_pos e1];omega
   have b1:ws.length≤10000:=by omega
   have b2:bs.length≤10000:=by omega
   have b3:rows.length≤10000:=by omega
   have hnb:ws.length+(bs.length+7)/8+rows.length≤5000:=by omega
   have hneed:needL (l+1) (Tr.mk k z ws bs (rows.map (·.1)))=needN k ws.length bs.length rows.length+(rows.map (fun r=>needL l r.1)).sum:=by
    simp [needL,Tr.kind,Tr.ws,Tr.bs,Tr.kids,hk,List.map_map,Function.comp_def]
   rw [hneed]
   by_cases hz:needN k ws.length bs.length rows.length=0
   ·have hr0:rows=[]:=List.eq_nil_of_length_eq_zero (by omega)
    rw [show needN k ws.length bs.length rows.length+(rows.map (fun r=>needL l r.1)).sum=0 from by rw [hz,hr0];rfl]
    by_cases hk1:k=1
    ·exact zEG k z A1 A2 A3 _ _ _ c1 c2 c3 b1 b2 b3 hk a size A c s i w F hF hlim hn hz0 hz1 hs hi2 hz hk1
    ·exact zFG k z A1 A2 A3 _ _ _ c1 c2 c3 b1 b2 b3 hk a size A c s i w F hF hlim hn hz0 hz1 hs hi2 hz hk1
   ·by_cases hsl:s+1=a.length
    ·by_cases hfit:(a[s].length:Int)+needN k ws.length bs.length rows.length≤size
     ·exact zmK l ih k z ws bs rows A1 A2 A3 c1 c2 c3 b1 b2 b3 hk a size A c s i w F hF hlim hn hz0 hz1 hs hi2 hcl hz hnb hws hbs hW hB hR hrr hrn hrb hsl hfit
     ·exact znK l ih k z ws bs rows A1 A2 A3 c1 c2 c3 b1 b2 b3 hk a size A c s i w F hF hlim hn hz0 hz1 hs hi2 hcl hz hnb hws hbs hW hB hR hrr hrn hrb hsl (by omega)
    ·by_cases hfit:(a[a.length-1].length:Int)+needN k ws.length bs.length rows.length+1≤size
     ·exact zpK l ih k z ws bs rows A1 A2 A3 c1 c2 c3 b1 b2 b3 hk a size A c s i w F hF hlim hn hz0 hz1 hs hi2 hcl hz hnb hws hbs hW hB hR hrr hrn hrb hsl hfit
     ·exact zoK l ih k z ws bs rows A1 A2 A3 c1 c2 c3 b1 b2 b3 hk a size A c s i w F hF hlim hn hz0 hz1 hs hi2 hcl hz hnb hws hbs hW hB hR hrr hrn hrb hsl (by omega)
theorem NumA.one:NumA [[0]]:=fun s hs x hx=>by
 rw [List.mem_singleton.1 hs] at hx
 rw [List.mem_singleton.1 hx]
 omega
def RowsN (B:Nat) (a:List (List Int)) (v:Value) (w:World):Prop:=∃ F:Nat→Prop,Foot (RowsU a v) w F∧∀ k,F k→B≤k
theorem RowsN.rowsU {B:Nat} {a:List (List Int)} {v:Value} {w:World} (h:RowsN B a v w):RowsU a v w:=h.elim fun _ h=>h.1.now
theorem RowsN.grow {B:Nat} {a:List (List Int)} {v:Value} {w w':World} (h:RowsN B a v w) (hg:Grow w w'):RowsN B a v w':=h.elim fun F h=>⟨F,h.1.grow hg,h.2⟩
theorem RowsN.mono {B C:Nat} {a:List (List Int)} {v:Value} {w:World} (h:RowsN B a v w) (hB:C≤B):RowsN C a v w:=h.elim fun F h=>⟨F,h.1,fun k hk=>Nat.le_trans hB (h.2 k hk)⟩
def BuildPost (t:Tr) (size:Int) (w:World) (e:Ending) (w':World):Prop :=
 Grow w w'∧((∃ r:Int,r≠0∧e=.returned (.tuple #[qI,.int .i64 r])∧(rightB 32 t=true→size<1+(needL 32 t:Int)))∨(∃ a A c,e=.returned (.tuple #[.slice A a.length c,qJ])∧LimA a∧NumA a∧fitsB (szs a)=true∧RowsN w.heap.size a (.slice A a.length c) w'))
theorem zQI {a:List (List Int)} (hl:LimA a) (hx:ExtA [[0]] a):fitsB (szs a)=true:=by
 have h0:=hx.2 0 (by simp)
 have h1:1≤a.length:=hx.1
 unfold fitsB
 rw [decide_eq_true_eq]
 refine ⟨by rw [zo];exact h1,by rw [zo];exact hl.1.1,?_,fun x hx=>?_,?_⟩
 ·cases a with
  | nil=>simp at h1
  | cons s r =>
   simp at h0
   simp [szs]
   omega
 ·obtain ⟨s,_,rfl⟩:=List.mem_map.1 hx
  exact Int.natCast_nonneg _
 ·have e:∀ b:List (List Int),(szs b).sum=(b.flatten.length:Int):=fun b=>by
    induction b with
    | nil=>rfl
    | cons s r ih=>simp [szs] at ih ⊢;omega
  rw [e]
  have:=hl.1.2
  omega
theorem zBD (t:Tr) (vw vb vk:Value) (size:Int) (w:World) (h:TrR w t vw vb vk) (hT:TrB t) (hN:TrN t) (hz0:1≤size) (hz1:size≤4096) :
    Calls Tryz.prog 57 #[.agg #[t.kind,t.size,vw,vb,vk],.int .i64 size] w (BuildPost t size w):=by
 have hga:=(Keep.refl NoB w).alloc (.cells #[t.kind,t.size,vw,vb,vk] 114)
 have HG:=LH hga
 have HH:=LH h
 have HC:=LH (heap_alloc_new w (.cells #[t.kind,t.size,vw,vb,vk] 114))
 have HR:=LH (zAD t vw vb vk _ (h.grow hga) hT)
 have HNN:=LH hN
 obtain ⟨A1,c1,A2,c2,A3,c3,rfl,rfl,rfl⟩:=h.parts
 clear h hT hN hga
 have hb0:¬ (size<1):=by omega
 have hb1:decide (size<1)=false:=by rw [decide_eq_false_iff_not];omega
 have hb2:decide (4096<size)=false:=by rw [decide_eq_false_iff_not];omega
 go_enter Tryz.func57,Tryz.ntmps57
 go_wp2_with fail
 refine HR.out.mono ?_
 rintro e w1 ⟨rfl,hg⟩
 replace HG:=LH (HG.out.grow hg)
 replace HC:=LH (Grow.heap hg HC.out)
 obtain ⟨n0,n1,n2,n3,n4,nf⟩:=zA HC.out
 have hlt9:=(gE HC.out).1
 have hne1:w.heap.size≠w1.heap.size:=by omega
 have hne2:w.heap.size≠w1.heap.size+1:=by omega
 have hne3:w1.heap.size≠w.heap.size:=by omega
 have hne4:w1.heap.size+1≠w.heap.size:=by omega
 clear hg HR
 rcases hrt:rightB 32 t with _ | _
 ·have HRT:=LH hrt
  clear hrt
  go_wp2
  go_ret2
  exact ⟨HG.out,.inl ⟨1,by decide,rfl,fun h=>by rw [HRT.out] at h;cases h⟩⟩
 ·have HRT:=LH hrt
  clear hrt
  have hh:=zU w1 (.cells #[qN] 22) (.cells #[.slice (some ⟨w1.heap.size,0,none⟩) 1 1] 111)
  have hF:Foot (RowsU [[0]] (.slice (some ⟨w1.heap.size+1,0,none⟩) ([[0]]:List (List Int)).length 1)) ((w1.alloc (.cells #[qN] 22)).alloc (.cells #[.slice (some ⟨w1.heap.size,0,none⟩) 1 1] 111)) (fun k=>k=w1.heap.size∨k=w1.heap.size+1):=by
   refine ⟨fun k hk=>by simp;omega,fun W' hW=>⟨_,_,rfl,fun i hi=>?_⟩⟩
   obtain rfl:i=0:=by simpa using hi
   have e1:=(hW w1.heap.size (.inl rfl)).trans hh.1
   have e2:=(hW (w1.heap.size+1) (.inr rfl)).trans hh.2.1
   exact ⟨_,_,_,rfl,cell0 e2,SliceR.of_block (cs:=#[qN]) e1 (Nat.le_refl _) rfl,fun _ ad e9=>by injection e9 with e9;subst e9;exact ⟨(gE e1).1,fun o=>zN o e1⟩⟩
  have hly:=zpL 32 t _ _ _ [[0]] size false _ 1 0 0 _ _ ((HH.out.grow HG.out).grow hh.2.2) HNN.out HRT.out hF ⟨by decide,by decide⟩ NumA.one (fun _=>⟨⟨by decide,by decide⟩,by decide⟩) (by omega) hz1 (by decide) (by decide)
  rw [show ((0:Nat):Int)=0 from rfl] at hly
  have HL:=LH hly
  clear hly
  have HG1:=LH HG.out
  have HG2:=LH (HG.out.grow hh.2.2)
  clear hh hF
  go_wp2_with fail
  refine HL.out.mono ?_
  rintro e w2 ⟨a',fl,A',c',F',rfl,hg2,har,hnew,hext,_,hnum,hlim,hsm⟩
  have HNW:Hid (∀ k,F' k→w.heap.size≤k):=LH (fun k hk=>by
   have h1:=HG1.out.size
   rcases hnew k hk with (h | h) | h
   ·omega
   ·omega
   ·simp at h;omega)
  clear hnew
  have HG3:=LH (HG2.out.grow hg2)
  cases fl with
  | true =>
   have HSM:Hid (size<1+(needL 32 t:Int)):=LH (by
    rcases Int.lt_or_le size (1+(needL 32 t:Int)) with h9 | h9
    ·exact h9
    ·have:=(hsm rfl rfl (by simpa using h9)).1
     cases this)
   clear hg2 har hext hnum hlim hsm
   go_wp2
   go_ret2
   exact ⟨HG3.out.alloc _,.inl ⟨24,by decide,rfl,fun _=>HSM.out⟩⟩
  | false =>
   have HFIN:Hid (LimA a'∧NumA a'∧fitsB (szs a')=true∧RowsN w.heap.size a' (.slice A' a'.length c') w2):=LH ⟨hlim rfl,hnum,zQI (hlim rfl) hext,F',har,HNW.out⟩
   clear hg2 har hext hnum hlim hsm
   go_wp2
   go_ret2
   exact ⟨HG3.out.alloc _,.inr ⟨a',A',c',rfl,HFIN.out.1,HFIN.out.2.1,HFIN.out.2.2.1,HFIN.out.2.2.2.grow ((Keep.refl NoB w2).alloc _)⟩⟩
def okU (l:List Int):Prop:=∀ x∈l,0≤x∧x≤255
def tlV (A:Option Addr) (n c:Nat):Value:=if c=1 then .slice A (n-1) (c-1) else .slice (A.map fun ad=>ad.add 1) (n-1) (c-1)
theorem SliceR.tail {A:Option Addr} {c:Nat} {x:Int} {l:List Int} {w:World} (h:SliceR 1 (.slice A (x :: l).length c) (x :: l).length (u8s (x :: l)) w):∃ A',tlV A (x :: l).length c=.slice A' l.length (c-1)∧SliceR 1 (.slice A' l.length (c-1)) l.length (u8s l) w:=by
 obtain ⟨A9,c9,e9,hc,hl,hA,hq⟩:=h
 injection e9 with e1 _ e3
 subst e1;subst e3
 unfold tlV
 simp only [List.length_cons,Nat.add_sub_cancel] at hc ⊢
 by_cases h1:c=1
 ·rw [if_pos h1]
  have h0:l=[]:=List.eq_nil_of_length_eq_zero (by omega)
  subst h0
  exact ⟨A,rfl,A,c-1,rfl,by simp,by simp [u8s],fun e=>by have:=hA e;omega,fun j u hu=>by simp [u8s] at hu⟩
 ·rw [if_neg h1]
  refine ⟨_,rfl,_,c-1,rfl,by omega,by simp [u8s],fun e=>?_,fun j u hu=>?_⟩
  ·cases A with
   | none=>have:=hA rfl;omega
   | some ad=>simp at e
  ·have hu2:(u8s (x :: l))[1+j]? = some u:=by
     rw [← hu,Nat.add_comm]
     simp [u8s]
   obtain ⟨ad,rfl,hcell⟩:=hq _ _ hu2
   exact ⟨_,rfl,by rw [Addr.add_add];exact hcell⟩
def TreeN (d L:Nat) (t:Tr) (l':List Int):Prop:=∀ l,d≤l→rightB l t=true∧needL l t+7*l'.length≤7*L
theorem TreeN.null {d L:Nat} {l':List Int} (h:l'.length≤L):TreeN d L tr0 l':=fun l _=>by
 cases l with
 | zero=>exact ⟨rfl,by simp [needL];omega⟩
 | succ l=>exact ⟨rfl,by simp [needL,tr0,Tr.kind];omega⟩
theorem TreeN.leaf {d L:Nat} {t:Tr} {l':List Int} (hk:t.kids=[]) (hd:d≠0) (ho:ownT t=true) (hn:needN t.kind t.ws.length t.bs.length t.kids.length≤7) (hL:l'.length+1≤L):TreeN d L t l':=fun l hl=>by
 cases l with
 | zero=>omega
 | succ l =>
  refine ⟨by simp [rightB,ho,hk],?_⟩
  have:needL (l+1) t≤7:=by
   unfold needL
   split
   ·omega
   ·rw [hk] at hn ⊢
    simpa using hn
  omega
def TreePost (d L n:Nat) (v w:World) (e:Ending) (w':World):Prop :=
 ∃ (t:Tr) (A1 A2 A3:Option Addr) (c1 c2 c3:Nat) (l':List Int) (A':Option Addr) (c':Nat),e=.returned (.tuple #[.agg #[t.kind,t.size,.slice A1 t.ws.length c1,.slice A2 t.bs.length c2,.slice A3 t.kids.length c3],.slice A' l'.length c'])∧Grow w w' ∧
  Foot (fun W=>TrR W t (.slice A1 t.ws.length c1) (.slice A2 t.bs.length c2) (.slice A3 t.kids.length c3)) w' (fun k=>w.heap.size≤k∧k<w'.heap.size)∧TrN t∧TrB t∧SliceR 1 (.slice A' l'.length c') l'.length (u8s l') v∧l'.length≤n∧okU l'∧TreeN d L t l'
theorem TrN.nil (k s:Int):TrN (.mk k s [] [] []):=.mk (fun _ h=>by cases h) (fun _ h=>by cases h) (fun _ h=>by cases h)
theorem TrB.nil (k s:Int):TrB (.mk k s [] [] []):=.mk (by simp) (by simp) (by simp) (fun _ h=>by cases h)
theorem zGG (l:List Int) (A:Option Addr) (c:Nat) (deep:Int) (v w:World) (h:SliceR 1 (.slice A l.length c) l.length (u8s l) v) (hl:l.length≤1000000) (hu:okU l) (hd:l=[]∨deep=0) (d:Nat) :
    Calls Tryz.prog 56 #[.slice A l.length c,.int .i64 deep] w (TreePost d l.length l.length v w):=by
 have hg:=(Keep.refl NoB w).alloc (.cells qA 114)
 have HFIN:Hid (TreePost d l.length l.length v w (.returned (.tuple #[.agg qA,.slice A l.length c])) (w.alloc (.cells qA 114))) :=
  LH ⟨tr0,none,none,none,0,0,0,l,A,c,rfl,hg,⟨fun k h=>h.2,fun W _=>TrR.nil W 0 0⟩,TrN.nil 0 0,TrB.nil 0 0,h,Nat.le_refl _,hu,TreeN.null (Nat.le_refl _)⟩
 rcases hq:(((l.length:Nat):Int)==0) with _ | _
 ·have hd0:deep=0:=by
    rcases hd with e | e
    ·rw [e] at hq;simp at hq
    ·exact e
  subst hd0
  clear h hd hg
  go_enter Tryz.func56,Tryz.ntmps56
  go_wp2
  refine bodyPost_ret (v:=.tuple #[.agg qA,.slice A l.length c]) ?_ rfl HFIN.out
  rw [results_cell_tmp rfl];go_simp
 ·clear h hd hg
  go_enter Tryz.func56,Tryz.ntmps56
  go_wp2
  refine bodyPost_ret (v:=.tuple #[.agg qA,.slice A l.length c]) ?_ rfl HFIN.out
  rw [results_cell_tmp rfl];go_simp
theorem SliceR.tail2 {ad:Addr} {n c:Nat} {x:Int} {l:List Int} {w:World} (h:SliceR 1 (.slice (some ad) n c) n (u8s (x :: l)) w) (hn:n=l.length+1) (hc:¬ (c=1)):SliceR 1 (.slice (some ⟨ad.block,ad.off+1,none⟩) (n-1) (c-1)) (n-1) (u8s l) w:=by
 subst hn
 obtain ⟨A',ht,hs⟩:=SliceR.tail (A:=some ad) (c:=c) (x:=x) (l:=l) h
 unfold tlV at ht
 rw [if_neg hc] at ht
 injection ht with h1 _ _
 subst h1
 exact hs
theorem zqK (x:Int) (l:List Int) (ad:Addr) (n c:Nat) (deep:Nat) (v w:World) (hv:Grow v w) (h:SliceR 1 (.slice (some ad) n c) n (u8s (x :: l)) v) (hn:n=l.length+1) (hl:l.length≤1000000) (hx:0≤x∧x≤255) (hu:okU l) (hd:deep≠0) (hc1:¬ (c=1)) (hm:x%8=0) :
    Calls Tryz.prog 56 #[(.slice (some ad) n c),.int .i64 deep] w (TreePost deep (l.length+1) l.length v w):=by
 have HD0:=LH hd
 have HT:=LH (h.tail2 hn hc1)
 have hcell0:v.cell? ad=some (.int .u8 x):=by
  obtain ⟨A9,c9,e9,_,_,_,hq⟩:=h
  injection e9 with e9 _ _
  obtain ⟨a9,e8,hc⟩:=hq 0 (.int .u8 x) rfl
  rw [← e9] at e8
  injection e8 with e8
  subst e8
  rw [Addr.add_zero'] at hc
  exact hc
 have hcell:=hv.cell hcell0 (fun h=>h)
 clear hcell0 hv
 have hc:n≤c:=by
  obtain ⟨_,_,e,h2,_⟩:=h
  injection e with _ e2 e3
  omega
 have hq:(((n:Nat):Int)==0)=false:=beq_eq_false_iff_ne.2 (by omega)
 have hn1:(1:Int)≤n:=by omega
 have hn0:(0:Int)<n:=by omega
 have HN2:=LH hn
 have HLN:Hid (n-1=l.length):=LH (by omega)
 have hdq:(((deep:Nat):Int)==0)=false:=beq_eq_false_iff_ne.2 (by omega)
 have hmb:(x%8==0)=true:=beq_iff_eq.2 hm
 have hga:=(Keep.refl NoB w).alloc (.cells qA 114)
 have hgb:=hga.alloc (.cells qA 114)
 have hcell2:=hga.cell hcell (fun h=>h)
 have HFIN:Hid (TreePost deep (l.length+1) l.length v w (.returned (.tuple #[.agg qA,.slice (some ⟨ad.block,ad.off+1,none⟩) (n-1) (c-1)])) ((w.alloc (.cells qA 114)).alloc (.cells qA 114))):=by
  have hs:=HT.out
  rw [HLN.out] at hs ⊢
  exact LH ⟨tr0,none,none,none,0,0,0,l,_,_,rfl,hgb,⟨fun k h=>h.2,fun W _=>TrR.nil W 0 0⟩,TrN.nil 0 0,TrB.nil 0 0,hs,Nat.le_refl _,hu,TreeN.null (Nat.le_succ _)⟩
 obtain ⟨hx1,hx2⟩:=hx
 clear h hm hd hn hcell hga hgb
 go_enter Tryz.func56,Tryz.ntmps56
 go_wp2
 refine bodyPost_ret (v:=.tuple #[.agg qA,.slice (some ⟨ad.block,ad.off+1,none⟩) (n-1) (c-1)]) ?_ rfl HFIN.out
 rw [results_cell_tmp rfl];go_simp
theorem zrK (x:Int) (ad:Addr) (deep:Nat) (v w:World) (hv:Grow v w) (h:SliceR 1 (.slice (some ad) 1 1) 1 (u8s [x]) v) (hx:0≤x∧x≤255) (hd:deep≠0) (hm:x%8=0) :
    Calls Tryz.prog 56 #[(.slice (some ad) 1 1),.int .i64 deep] w (TreePost deep (([]:List Int).length+1) ([]:List Int).length v w):=by
 have HD0:=LH hd
 have HT:Hid (SliceR 1 (.slice (some ad) 0 0) 0 (u8s []) v):=LH ⟨some ad,0,rfl,Nat.le_refl _,by simp [u8s],fun _=>rfl,fun j u hu=>by simp [u8s] at hu⟩
 have hcell0:v.cell? ad=some (.int .u8 x):=by
  obtain ⟨A9,c9,e9,_,_,_,hq⟩:=h
  injection e9 with e9 _ _
  obtain ⟨a9,e8,hc⟩:=hq 0 (.int .u8 x) rfl
  rw [← e9] at e8
  injection e8 with e8
  subst e8
  rw [Addr.add_zero'] at hc
  exact hc
 have hcell:=hv.cell hcell0 (fun h=>h)
 clear hcell0 hv
 have hu:okU []:=fun y hy=>by cases hy
 have hn:0=([]:List Int).length:=rfl
 have hdq:(((deep:Nat):Int)==0)=false:=beq_eq_false_iff_ne.2 (by omega)
 have hmb:(x%8==0)=true:=beq_iff_eq.2 hm
 have hga:=(Keep.refl NoB w).alloc (.cells qA 114)
 have hgb:=hga.alloc (.cells qA 114)
 have hcell2:=hga.cell hcell (fun h=>h)
 have HFIN:Hid (TreePost deep (([]:List Int).length+1) ([]:List Int).length v w (.returned (.tuple #[.agg qA,.slice (some ad) 0 0])) ((w.alloc (.cells qA 114)).alloc (.cells qA 114))):=by
  have hs:=HT.out
  skip
  exact LH ⟨tr0,none,none,none,0,0,0,([]:List Int),_,_,rfl,hgb,⟨fun k h=>h.2,fun W _=>TrR.nil W 0 0⟩,TrN.nil 0 0,TrB.nil 0 0,hs,Nat.le_refl _,hu,TreeN.null (Nat.le_succ _)⟩
 obtain ⟨hx1,hx2⟩:=hx
 clear h hm hd hn hcell hga hgb
 go_enter Tryz.func56,Tryz.ntmps56
 go_wp2
 refine bodyPost_ret (v:=.tuple #[.agg qA,.slice (some ad) 0 0]) ?_ rfl HFIN.out
 rw [results_cell_tmp rfl];go_simp
end Go.Proofs.YtfkcpaahdlkcdaaGreat

import Derived.Test.YtfkcpaahdlkcdaaGreatRRecvReads16
import Derived.Test.YtfkcpaahdlkcdaaGreatRRecvReads17
set_option linter.unusedSimpArgs false
set_option linter.unusedVariables false
set_option maxRecDepth 100000
set_option maxHeartbeats 16000000
namespace Go.Proofs.YtfkcpaahdlkcdaaGreat
open Go.RowKit
def LimA (a:List (List Int)):Prop:=(a.length≤16∧a.flatten.length≤4096)∧∀ s∈a,s.length≤4096
def BigA (a:List (List Int)):Prop:=a.length≤20∧∀ s∈a,s.length≤10000
def NumA (a:List (List Int)):Prop:=∀ s∈a,okW s
def ExtA (a b:List (List Int)):Prop:=a.length≤b.length∧∀ j,j<a.length→(a.getD j []).length≤(b.getD j []).length
theorem ExtA.refl (a:List (List Int)):ExtA a a:=⟨Nat.le_refl _,fun _ _=>Nat.le_refl _⟩
theorem ExtA.trans {a b c:List (List Int)} (h:ExtA a b) (k:ExtA b c):ExtA a c:=⟨Nat.le_trans h.1 k.1,fun j hj=>Nat.le_trans (h.2 j hj) (k.2 j (Nat.lt_of_lt_of_le hj h.1))⟩
inductive TrN:Tr→Prop where
 | mk {k s:Int} {ws bs:List Int} {kids:List Tr} (hw:okW ws) (hb:∀ x∈bs,0≤x∧x≤255) (hk:∀ t,t∈kids→TrN t):TrN (.mk k s ws bs kids)
theorem TrN.w {t:Tr} (h:TrN t):okW t.ws:=by cases h;assumption
theorem TrN.b {t:Tr} (h:TrN t):∀ x∈t.bs,0≤x∧x≤255:=by cases h;assumption
theorem TrN.r {t:Tr} (h:TrN t):∀ u,u∈t.kids→TrN u:=by cases h;assumption
theorem LimA.big {a:List (List Int)} (h:LimA a):BigA a:=⟨by have:=h.1;omega,fun s hs=>by have:=h.2 s hs;omega⟩
theorem zCG {a:List (List Int)} {i:Nat} (h:i<a.length):a.getD i []∈a:=by
 have:a.getD i []=a[i]:=by simp [h]
 rw [this];exact List.getElem_mem h
theorem zkH (a:List (List Int)) (seg:Nat) (s:List Int) (h:(a.getD seg []).length≤s.length):ExtA a (a.set seg s):=by
 refine ⟨by simp,fun j hj=>?_⟩
 by_cases e:seg=j
 ·subst e
  simpa [List.getD_eq_getElem?_getD,List.getElem?_set,hj] using h
 ·simp [List.getD_eq_getElem?_getD,List.getElem?_set_ne e]
theorem zWA {a:List (List Int)} {i:Nat} {s x:List Int} (h:x∈a.set i s):x∈a∨x=s:=List.mem_or_eq_of_mem_set h
theorem zDG {a:List (List Int)} {seg:Nat} {s:List Int} (hs:seg<a.length):(a.set seg s).flatten.length+a[seg].length=a.flatten.length+s.length:=by
 have e:=List.take_append_drop seg a
 have h1:(a.set seg s).flatten.length=(a.take seg).flatten.length+(s.length+(a.drop (seg+1)).flatten.length):=by
  rw [List.set_eq_take_append_cons_drop,if_pos hs,List.flatten_append,List.flatten_cons,List.length_append,List.length_append]
 have h2:a.flatten.length=(a.take seg).flatten.length+(a[seg].length+(a.drop (seg+1)).flatten.length):=by
  conv=>lhs;rw [← e]
  rw [List.drop_eq_getElem_cons hs,List.flatten_append,List.flatten_cons,List.length_append,List.length_append]
 omega
theorem zdC {a:List (List Int)} {seg i:Nat} {x:Int} (hs:seg<a.length):(a.set seg (a[seg].set i x)).flatten.length=a.flatten.length:=by
 have:=zDG (s:=a[seg].set i x) hs
 rw [List.length_set] at this
 omega
def SmA (n:Nat) (a:List (List Int)) (size:Int) (full:Bool) (a':List (List Int)) (full':Bool):Prop:=full=false→a.length=1→(a.flatten.length:Int)+n≤size→full'=false∧a'.length=1∧a'.flatten.length=a.flatten.length+n
theorem SmA.trans {n m:Nat} {a b c:List (List Int)} {size:Int} {f g h:Bool} (x:SmA n a size f b g) (y:SmA m b size g c h):SmA (n+m) a size f c h:=fun h1 h2 h3=>by
 obtain ⟨x1,x2,x3⟩:=x h1 h2 (by omega)
 obtain ⟨y1,y2,y3⟩:=y x1 x2 (by omega)
 exact ⟨y1,y2,by omega⟩
theorem SmA.set {a:List (List Int)} {size:Int} {seg i:Nat} {x:Int} (hs:seg<a.length):SmA 0 a size false (a.set seg (a[seg].set i x)) false:=fun _ h _=>⟨rfl,by rw [List.length_set];exact h,zdC hs⟩
theorem zcE {a:List (List Int)} {seg i:Nat} {x:Int} (hs:seg<a.length) (hl:LimA a) (hn:NumA a) (h0:0≤x) (h1:x≤18446744073709551615):LimA (a.set seg (a[seg].set i x))∧NumA (a.set seg (a[seg].set i x))∧ExtA a (a.set seg (a[seg].set i x))∧(a.set seg (a[seg].set i x)).length=a.length∧∀ j,((a.set seg (a[seg].set i x)).getD j []).length=(a.getD j []).length:=by
 have hg:a.getD seg []=a[seg]:=by simp [hs]
 refine ⟨⟨by rw [List.length_set,zdC hs];exact hl.1,fun s hm=>?_⟩,fun s hm=>?_,zkH a seg _ (by rw [hg,List.length_set];exact Nat.le_refl _),by simp,fun j=>?_⟩
 ·rcases zWA hm with h | h
  ·exact hl.2 s h
  ·rw [h,List.length_set];exact hl.2 _ (List.getElem_mem hs)
 ·rcases zWA hm with h | h
  ·exact hn s h
  ·rw [h]
   intro y hy
   rcases List.mem_or_eq_of_mem_set hy with h2 | h2
   ·exact hn _ (List.getElem_mem hs) y h2
   ·rw [h2];exact ⟨h0,h1⟩
 ·by_cases e:seg=j
  ·subst e
   simp [List.getD_eq_getElem?_getD,List.getElem?_set,hs]
  ·simp [List.getD_eq_getElem?_getD,List.getElem?_set_ne e]
theorem zkK {a:List (List Int)} {seg:Nat} {l:List Int} (hs:seg≤a.length) (hn:NumA a) (hl:okW l):NumA (moreA a seg l)∧ExtA a (moreA a seg l)∧((moreA a seg l).getD seg []).length=(a.getD seg []).length+l.length∧seg<(moreA a seg l).length∧(moreA a seg l).length≤a.length+1∧(∀ B,(∀ s∈a,s.length≤B)→∀ s∈moreA a seg l,s.length≤B+l.length)∧(seg<a.length→(moreA a seg l).length=a.length):=by
 unfold moreA
 by_cases e:seg=a.length
 ·have hg:(a++[[]]).getD seg ([]:List Int)=[]:=by rw [e];simp [List.getD_eq_getElem?_getD]
  have hg2:a.getD seg []=[]:=by rw [e];simp [List.getD_eq_getElem?_getD]
  rw [if_pos e,hg,hg2]
  simp only [List.nil_append]
  have hm:∀ s,s∈(a++[[]]).set seg l→s∈a∨s=[]∨s=l:=fun s h=>by
   rcases zWA h with h | h
   ·rcases List.mem_append.1 h with h | h
    ·exact .inl h
    ·exact .inr (.inl (List.mem_singleton.1 h))
   ·exact .inr (.inr h)
  refine ⟨fun s h=>?_,⟨by simp,fun j hj=>?_⟩,?_,by simp;omega,by simp,fun B hB s h=>?_,fun h=>by omega⟩
  ·rcases hm s h with h | h | h
   ·exact hn s h
   ·rw [h];intro x hx;cases hx
   ·rw [h];exact hl
  ·have:seg≠j:=by omega
   rw [List.getD_eq_getElem?_getD,List.getD_eq_getElem?_getD,List.getElem?_set_ne this,List.getElem?_append_left hj]
   exact Nat.le_refl _
  ·simp [List.getD_eq_getElem?_getD,List.getElem?_set,e]
  ·rcases hm s h with h | h | h
   ·have:=hB s h;omega
   ·rw [h];simp
   ·rw [h];omega
 ·rw [if_neg e]
  have hlt:seg<a.length:=by omega
  refine ⟨fun s h=>?_,zkH a seg _ (by simp),?_,by simpa using hlt,by simp,fun B hB s h=>?_,fun _=>by simp⟩
  ·rcases zWA h with h | h
   ·exact hn s h
   ·rw [h]
    intro x hx
    rcases List.mem_append.1 hx with h2 | h2
    ·exact hn _ (zCG hlt) x h2
    ·exact hl x h2
  ·simp [List.getD_eq_getElem?_getD,List.getElem?_set,hlt]
  ·rcases zWA h with h | h
   ·have:=hB s h;omega
   ·rw [h,List.length_append];have:=hB _ (zCG hlt);omega
theorem SmA.more {a:List (List Int)} {size:Int} {full:Bool} {seg:Nat} {l:List Int} (hs:seg<a.length) (hz:size≤4096):SmA l.length a size full (moreA a seg l) (moreF a size full seg l):=fun h1 h2 h3=>by
 obtain rfl:seg=0:=by omega
 have hn:¬ (0=a.length):=by omega
 have hm:moreA a 0 l=a.set 0 (a.getD 0 []++l):=by unfold moreA;rw [if_neg hn]
 have hg:a.getD 0 []=a[0]:=by simp [hs]
 have hf:=zDG (s:=a.getD 0 []++l) hs
 rw [List.length_append,hg] at hf
 have hl:(a.set 0 (a[0]++l)).length=1:=by rw [List.length_set];exact h2
 have h0:((a.set 0 (a[0]++l)).getD 0 []).length≤(a.set 0 (a[0]++l)).flatten.length:=by
  obtain ⟨x,hx⟩:∃ x,a=[x]:=List.length_eq_one_iff.1 h2
  subst hx
  simp
 unfold moreF
 rw [hm,hg]
 refine ⟨?_,hl,by omega⟩
 rw [h1,hl,Bool.false_or,Bool.or_eq_false_iff,Bool.or_eq_false_iff,decide_eq_false_iff_not,decide_eq_false_iff_not,decide_eq_false_iff_not]
 refine ⟨⟨?_,by omega⟩,by omega⟩
 omega
theorem zcJ {a:List (List Int)} {size:Int} {full:Bool} {seg:Nat} {l:List Int} (hs:seg≤a.length) (hz:size≤4096) (hlim:full=false→LimA a) (hf:moreF a size full seg l=false):full=false∧LimA (moreA a seg l):=by
 unfold moreF at hf
 simp only [Bool.or_eq_false_iff,decide_eq_false_iff_not] at hf
 obtain ⟨⟨⟨h1,h2⟩,h3⟩,h4⟩:=hf
 have hla:=hlim h1
 refine ⟨h1,⟨by omega,by omega⟩,fun s hm=>?_⟩
 have hm2:s∈a∨s=[]∨s=(moreA a seg l).getD seg []:=by
  have hlt:seg<(moreA a seg l).length:=by unfold moreA;split <;> simp <;> omega
  unfold moreA at hm
  rcases zWA hm with h | h
  ·split at h
   ·rcases List.mem_append.1 h with h | h
    ·exact .inl h
    ·exact .inr (.inl (List.mem_singleton.1 h))
   ·exact .inl h
  ·right;right
   rw [h]
   unfold moreA at hlt ⊢
   rw [List.length_set] at hlt
   simp [List.getD_eq_getElem?_getD,List.getElem?_set,hlt]
 rcases hm2 with h | h | h
 ·exact hla.2 s h
 ·rw [h];simp
 ·rw [h];omega
end Go.Proofs.YtfkcpaahdlkcdaaGreat
namespace Go.Proofs.YtfkcpaahdlkcdaaGreat
open Go.RowKit
theorem zCH (a:List (List Int)) (A:Option Addr) (c:Nat) (size:Int) (full:Bool) (seg:Nat) (l:List Int) (Al:Option Addr) (cl:Nat) (hs:seg≤a.length) (hla:a.length≤100) (hls:∀ s∈a,s.length≤100000) (hll:l.length≤100000) (w:World) {F:Nat→Prop} (hF:Foot (RowsU a (.slice A a.length c)) w F) (hl:SliceR 1 (.slice Al l.length cl) l.length (u64s l) w) :
    Calls Tryz.prog 196 #[.agg #[.slice A a.length c,.int .i64 size,.bool full],.int .i64 seg,.slice Al l.length cl] w fun e w'=>∃ A' c',e=.returned (.agg #[.slice A' (moreA a seg l).length c',.int .i64 size,.bool (moreF a size full seg l)])∧Grow w w'∧Foot (RowsU (moreA a seg l) (.slice A' (moreA a seg l).length c')) w' (NewF F w w'):=by
 rcases Nat.lt_or_ge seg a.length with h | h
 ·exact zVJ a A c size full seg l Al cl h hla hls hll w hF hl
 ·exact zUJ a A c size full seg l Al cl (by omega) hla hls hll w hF hl
structure LI (w0:World) (node:Obj) (F0:Nat→Prop) (a:List (List Int)) (A:Option Addr) (c:Nat) (size:Int) (full:Bool) (F:Nat→Prop) (w:World):Prop where
 t:w.heap[w0.heap.size]? = some (.cells #[.slice A a.length c,.int .i64 size,.bool full] 197 (0,0))
 nd:w.heap[w0.heap.size+1]? = some node
 r:w.heap[w0.heap.size+2]? = some (.cells #[qI,qJ,qL] 197 (0,0))
 ar:Foot (RowsU a (.slice A a.length c)) w F
 fd:∀ k,F k→k<w0.heap.size∨w0.heap.size+2<k
 ff:∀ k,F k→F0 k∨w0.heap.size≤k
 gr:Grow w0 w
theorem three (w:World) (g:Nat) (v0 v1 v2:Value):Keep (fun k=>k=g) w (((w.setCell ⟨g,0,none⟩ v0).setCell ⟨g,1,none⟩ v1).setCell ⟨g,2,none⟩ v2) :=
 (((Keep.refl (fun k=>k=g) w).setCell (p:=⟨g,0,none⟩) (.inl rfl) v0).setCell (p:=⟨g,1,none⟩) (.inl rfl) v1).setCell (p:=⟨g,2,none⟩) (.inl rfl) v2
theorem put3 {w:World} {g T:Nat} {a0 a1 a2:Value} (x y z:Value) (h:w.heap[g]? = some (.cells #[a0,a1,a2] T (0,0))) :
    (((w.setCell ⟨g,0,none⟩ x).setCell ⟨g,1,none⟩ y).setCell ⟨g,2,none⟩ z).heap[g]? = some (.cells #[x,y,z] T (0,0)):=by
 simp only [World.setCell,Array.getElem?_modify]
 simp [h]
namespace LI
variable {w0:World} {node:Obj} {F0:Nat→Prop} {a:List (List Int)} {A:Option Addr} {c:Nat} {size:Int} {full:Bool} {F:Nat→Prop} {w w':World}
theorem later (h:LI w0 node F0 a A c size full F w) (hg:Grow w w'):LI w0 node F0 a A c size full F w' :=
 ⟨hg.heap h.t,hg.heap h.nd,hg.heap h.r,h.ar.grow hg,h.fd,h.ff,h.gr.grow hg⟩
theorem put (h:LI w0 node F0 a A c size full F w) {a':List (List Int)} {A':Option Addr} {c':Nat} {full':Bool} {F':Nat→Prop} (hg:Grow w w') (har:Foot (RowsU a' (.slice A' a'.length c')) w' F') (hF:∀ k,F' k→F k∨w.heap.size≤k) :
    LI w0 node F0 a' A' c' size full' F' (((w'.setCell ⟨w0.heap.size,0,none⟩ (.slice A' a'.length c')).setCell ⟨w0.heap.size,1,none⟩ (.int .i64 size)).setCell ⟨w0.heap.size,2,none⟩ (.bool full')):=by
 have hk:=three w' w0.heap.size (.slice A' a'.length c') (.int .i64 size) (.bool full')
 have hr:=(gE h.r).1
 have hs:=hg.size
 have hfd:∀ k,F' k→k<w0.heap.size∨w0.heap.size+2<k:=fun k hk2=>by
  rcases hF k hk2 with e | e
  ·exact h.fd k e
  ·omega
 exact ⟨put3 _ _ _ (hg.heap h.t),(hk.block (w0.heap.size+1) (by omega) (by omega)).trans (hg.heap h.nd),(hk.block (w0.heap.size+2) (by omega) (by omega)).trans (hg.heap h.r),har.keep hk (fun k hk2 e=>by have:=hfd k hk2;omega),hfd,
  fun k hk2=>by
   rcases hF k hk2 with e | e
   ·exact h.ff k e
   ·exact .inr (by omega),(h.gr.grow hg).trans hk (fun i hi=>.inr (by omega))⟩
end LI
def needL:Nat→Tr→Nat
 | 0,_=>0
 | l+1,t=>if t.kind=0 then 0 else needN t.kind t.ws.length t.bs.length t.kids.length+(t.kids.map (needL l)).sum
def LayPost (n:Nat) (a:List (List Int)) (size:Int) (full:Bool) (F:Nat→Prop) (w:World) (e:Ending) (w':World):Prop :=
 ∃ a' full' A' c' F',e=.returned (.agg #[.slice A' a'.length c',.int .i64 size,.bool full'])∧Grow w w'∧Foot (RowsU a' (.slice A' a'.length c')) w' F'∧(∀ k,F' k→F k∨w.heap.size≤k)∧ExtA a a'∧BigA a'∧NumA a'∧(full'=false→LimA a')∧SmA n a size full a' full'
def LayAt (l:Nat):Prop:=∀ (t:Tr) (vw vb vk:Value) (a:List (List Int)) (size:Int) (full:Bool) (A:Option Addr) (c s i:Nat) (w:World) (F:Nat→Prop),TrR w t vw vb vk→TrN t→rightB l t=true→Foot (RowsU a (.slice A a.length c)) w F→BigA a→NumA a→(full=false→LimA a)→0≤size→size≤4096→s<a.length→i<(a.getD s []).length →
 Calls Tryz.prog 127 #[.agg #[.slice A a.length c,.int .i64 size,.bool full],.agg #[t.kind,t.size,vw,vb,vk],.int .i64 s,.int .i64 i] w (LayPost (needL l t) a size full F w)
theorem zlK (k z:Int) (A1 A2 A3:Option Addr) (nw nb nk c1 c2 c3:Nat) (n c:Nat) (A:Option Addr) (size:Int) (full:Bool) (s i:Int) (w:World) (h:k=0∨full=true) :
    Calls Tryz.prog 127 #[.agg #[.slice A n c,.int .i64 size,.bool full],.agg #[.int .i64 k,.int .i64 z,.slice A1 nw c1,.slice A2 nb c2,.slice A3 nk c3],.int .i64 s,.int .i64 i] w fun e w'=>e=.returned (.agg #[.slice A n c,.int .i64 size,.bool full])∧Grow w w':=by
 have hw:Grow w (((w.alloc (.cells #[.slice A n c,.int .i64 size,.bool full] 197)).alloc (.cells #[.int .i64 k,.int .i64 z,.slice A1 nw c1,.slice A2 nb c2,.slice A3 nk c3] 114)).alloc (.cells #[.slice A n c,.int .i64 size,.bool full] 197)):=(((Keep.refl NoB w).alloc _).alloc _).alloc _
 have HW:=LH hw
 clear hw
 rcases hk:(k==0) with _ | _
 ·have hf:full=true:=by
    rcases h with h | h
    ·rw [h] at hk;cases hk
    ·exact h
  subst hf
  clear h
  go_enter Tryz.func127,Tryz.ntmps127
  go_wp2
  refine bodyPost_ret (v:=.agg #[.slice A n c,.int .i64 size,.bool true]) ?_ rfl ⟨rfl,(((Keep.refl NoB w).alloc _).alloc _).alloc _⟩
  rw [zO rfl];go_simp
 ·have hk0:k=0:=beq_iff_eq.1 hk
  subst hk0
  clear h hk
  go_enter Tryz.func127,Tryz.ntmps127
  go_wp2
  refine bodyPost_ret (v:=.agg #[.slice A n c,.int .i64 size,.bool full]) ?_ rfl ⟨rfl,(((Keep.refl NoB w).alloc _).alloc _).alloc _⟩
  rw [zO rfl];go_simp
end Go.Proofs.YtfkcpaahdlkcdaaGreat
namespace Go.Proofs.YtfkcpaahdlkcdaaGreat
open Go.RowKit
theorem LI.start {w:World} {node:Obj} {F:Nat→Prop} {a:List (List Int)} {A:Option Addr} {c:Nat} {size:Int} {full:Bool} (hF:Foot (RowsU a (.slice A a.length c)) w F) :
    LI w node F a A c size full F (((w.alloc (.cells #[.slice A a.length c,.int .i64 size,.bool full] 197)).alloc node).alloc (.cells #[qI,qJ,qL] 197)):=by
 have h2:=zU w (.cells #[.slice A a.length c,.int .i64 size,.bool full] 197) node
 have hg3:=(Keep.refl NoB ((w.alloc (.cells #[.slice A a.length c,.int .i64 size,.bool full] 197)).alloc node)).alloc (.cells #[qI,qJ,qL] 197)
 have hr:=heap_alloc_new ((w.alloc (.cells #[.slice A a.length c,.int .i64 size,.bool full] 197)).alloc node) (.cells #[qI,qJ,qL] 197)
 rw [show ((w.alloc (.cells #[.slice A a.length c,.int .i64 size,.bool full] 197)).alloc node).heap.size=w.heap.size+2 from by simp] at hr
 exact ⟨Grow.heap hg3 h2.1,Grow.heap hg3 h2.2.1,hr,(hF.grow h2.2.2).grow hg3,fun k hk=>.inl (hF.lt hk),fun k hk=>.inl hk,h2.2.2.grow hg3⟩
theorem zEG (k z:Int) (A1 A2 A3:Option Addr) (nw nb nk c1 c2 c3:Nat) (h1:nw≤10000) (h2:nb≤10000) (h3:nk≤10000) (hk0:k≠0) (a:List (List Int)) (size:Int) (A:Option Addr) (c s i:Nat) (w:World) (F:Nat→Prop) (hF:Foot (RowsU a (.slice A a.length c)) w F) (hlim:LimA a) (hnum:NumA a) (hz0:0≤size) (hz1:size≤4096) (hs:s<a.length) (hi:i<a[s].length) (hn:needN k nw nb nk=0) (hk1:k=1) :
    Calls Tryz.prog 127 #[.agg #[.slice A a.length c,.int .i64 size,qL],.agg #[.int .i64 k,.int .i64 z,.slice A1 nw c1,.slice A2 nb c2,.slice A3 nk c3],.int .i64 s,.int .i64 i] w (LayPost 0 a size false F w):=by
 have HI:Hid (LI w (.cells #[.int .i64 k,.int .i64 z,.slice A1 nw c1,.slice A2 nb c2,.slice A3 nk c3] 114) F a A c size false F _):=LH (LI.start hF)
 have HLIM:=LH hlim
 have HNUM:=LH hnum
 have hkb:(k==0)=false:=beq_eq_false_iff_ne.2 hk0
 have hl16:=hlim.1
 have hi4:=hlim.2 _ (List.getElem_mem hs)
 have HNE:Hid (0<a.length):=LH (by omega)
 have hk1b:(k==1)=true:=beq_iff_eq.2 hk1
 have HN0:=LH hn
 clear hF hlim hnum hk0 hk1 hn
 go_enter Tryz.func127,Tryz.ntmps127
 go_wp2_with fail
 refine (zoA k z A1 A2 A3 nw nb nk c1 c2 c3 (by omega) (by omega) (by omega) _).mono ?_
 rintro e w1 ⟨rfl,hg⟩
 replace HI:=LH (HI.out.later hg)
 clear hg
 rw [HN0.out]
 have hsz1:=(gE HI.out.r).1
 generalize hBB:w.heap.size=B at hsz1 ⊢
 have HBB:=LH hBB
 obtain ⟨t0,t1,t2,tf⟩:=zI (by rw [← HBB.out];exact HI.out.t:w1.heap[B]? = _)
 obtain ⟨n0,n1,n2,n3,n4,nf⟩:=zA (by rw [← HBB.out];exact HI.out.nd:w1.heap[B+1]? = _)
 clear hBB
 go_wp2
 refine zE [0,1,2,3,4,5,6,7] [5,6,7] [0,3] [7] rfl (by kernel_rfl) ?_
 refine oc3 t0 t1 t2 ?_
 iterate 2
  refine ord_p ?_
 refine oc5 n0 n1 n2 n3 n4 ?_
 refine ord_p ?_
 refine zG rfl rfl rfl rfl rfl Tryz.func195 rfl rfl [.agg #[.int .i64 k,.int .i64 z,.slice A1 nw c1,.slice A2 nb c2,.slice A3 nk c3],.int .i64 (-1)] rfl ?_
 refine (zfA k z (-1) A1 A2 A3 nw nb nk c1 c2 c3 (by omega) (by omega) (by omega) _).mono ?_
 rintro e w2 ⟨x,rfl,hx0,hx1,hg2⟩
 refine ⟨_,rfl,fun _=>hg2,?_⟩
 simp only [Act.put,pB,pC,pD]
 have HI2:=LH ((HI.out.later (Keep.refl NoB w1).drew).later hg2)
 refine zG rfl rfl rfl rfl rfl Tryz.func194 rfl rfl [.agg #[.slice A a.length c,.int .i64 size,qL],.int .i64 s,.int .i64 i,.int .u64 x] rfl ?_
 refine (zRC a A c size false s i x hs hi (by omega) (by omega) w2 HI2.out.ar).mono ?_
 rintro e w3 ⟨A',c',rfl,hg3,har⟩
 refine ⟨_,rfl,fun _=>hg3,?_⟩
 simp only [Act.put,pB,pC,pD]
 have HI3:=LH (HI2.out.later hg3)
 have HX:Hid (0≤x∧x≤18446744073709551615):=LH ⟨hx0,hx1⟩
 have hro:=zcE (i:=i) hs HLIM.out HNUM.out HX.out.1 HX.out.2
 have hk5:=three w3 (B+2) (.slice A' a.length c') (.int .i64 size) (.bool false)
 have hrr:=HI3.out.r
 rw [HBB.out] at hrr
 have hfd:=HI2.out.fd
 have hff:=HI2.out.ff
 have hs2:=HI2.out.gr.size
 have hr2:=(gE HI2.out.r).1
 have hgr:=HI3.out.gr
 rw [HBB.out] at hfd hff hs2 hr2
 have HFIN:Hid (LayPost 0 a size false F w (.returned (.agg #[.slice A' a.length c',.int .i64 size,qL])) (((w3.setCell ⟨B+2,0,none⟩ (.slice A' a.length c')).setCell ⟨B+2,1,none⟩ (.int .i64 size)).setCell ⟨B+2,2,none⟩ (.bool false))):=by
  refine LH ⟨a.set s (a[s].set i x),false,A',c',NewF F w2 w3,by rw [hro.2.2.2.1],hgr.trans hk5 (fun j hj=>.inr (by rw [HBB.out];omega)),?_,fun j hj=>?_,hro.2.2.1,hro.1.big,hro.2.1,fun _=>hro.1,SmA.set hs⟩
  ·rw [hro.2.2.2.1]
   exact har.keep hk5 (fun j hj e=>by
    rcases hj with e2 | e2
    ·have:=hfd j e2;omega
    ·omega)
  ·rcases hj with e2 | e2
   ·exact .inl e2
   ·exact .inr (by rw [HBB.out];omega)
 have hput:=put3 (.slice A' a.length c') (.int .i64 size) (.bool false) hrr
 obtain ⟨y0,y1,y2,yf⟩:=zI hrr
 clear hx0 hx1 hg2 hg3 har hro hk5 hrr hfd hff hgr HI HI2 HI3
 refine zJ rfl rfl rfl rfl ?_ ?_ (fun h=>absurd (by simp) h) ?_
 rotate_left
 ·go_simp;with_reducible rfl
 refine zD ?_
 clear t0 t1 t2 tf n0 n1 n2 n3 n4 nf y0 y1 y2 yf
 obtain ⟨y0,y1,y2,yf⟩:=zI hput
 clear hput
 go_wp2
 refine bodyPost_ret (v:=.agg #[.slice A' a.length c',.int .i64 size,qL]) ?_ rfl HFIN.out
 rw [zO rfl];go_simp
theorem zFG (k z:Int) (A1 A2 A3:Option Addr) (nw nb nk c1 c2 c3:Nat) (h1:nw≤10000) (h2:nb≤10000) (h3:nk≤10000) (hk0:k≠0) (a:List (List Int)) (size:Int) (A:Option Addr) (c s i:Nat) (w:World) (F:Nat→Prop) (hF:Foot (RowsU a (.slice A a.length c)) w F) (hlim:LimA a) (hnum:NumA a) (hz0:0≤size) (hz1:size≤4096) (hs:s<a.length) (hi:i<a[s].length) (hn:needN k nw nb nk=0) (hk1:k≠1) :
    Calls Tryz.prog 127 #[.agg #[.slice A a.length c,.int .i64 size,qL],.agg #[.int .i64 k,.int .i64 z,.slice A1 nw c1,.slice A2 nb c2,.slice A3 nk c3],.int .i64 s,.int .i64 i] w (LayPost 0 a size false F w):=by
 have HI:Hid (LI w (.cells #[.int .i64 k,.int .i64 z,.slice A1 nw c1,.slice A2 nb c2,.slice A3 nk c3] 114) F a A c size false F _):=LH (LI.start hF)
 have HLIM:=LH hlim
 have HNUM:=LH hnum
 have hkb:(k==0)=false:=beq_eq_false_iff_ne.2 hk0
 have hl16:=hlim.1
 have hi4:=hlim.2 _ (List.getElem_mem hs)
 have HNE:Hid (0<a.length):=LH (by omega)
 have hk1b:(k==1)=false:=beq_eq_false_iff_ne.2 hk1
 have HN0:=LH hn
 clear hF hlim hnum hk0 hk1 hn
 go_enter Tryz.func127,Tryz.ntmps127
 go_wp2_with fail
 refine (zoA k z A1 A2 A3 nw nb nk c1 c2 c3 (by omega) (by omega) (by omega) _).mono ?_
 rintro e w1 ⟨rfl,hg⟩
 replace HI:=LH (HI.out.later hg)
 clear hg
 rw [HN0.out]
 have hsz1:=(gE HI.out.r).1
 generalize hBB:w.heap.size=B at hsz1 ⊢
 have HBB:=LH hBB
 obtain ⟨t0,t1,t2,tf⟩:=zI (by rw [← HBB.out];exact HI.out.t:w1.heap[B]? = _)
 obtain ⟨n0,n1,n2,n3,n4,nf⟩:=zA (by rw [← HBB.out];exact HI.out.nd:w1.heap[B+1]? = _)
 clear hBB
 go_wp2
 refine zE [0,1,2,3,4,5,6,7] [5,6,7] [0,3] [7] rfl (by kernel_rfl) ?_
 refine oc3 t0 t1 t2 ?_
 iterate 2
  refine ord_p ?_
 refine oc5 n0 n1 n2 n3 n4 ?_
 refine ord_p ?_
 refine zG rfl rfl rfl rfl rfl Tryz.func195 rfl rfl [.agg #[.int .i64 k,.int .i64 z,.slice A1 nw c1,.slice A2 nb c2,.slice A3 nk c3],.int .i64 (0)] rfl ?_
 refine (zfA k z (0) A1 A2 A3 nw nb nk c1 c2 c3 (by omega) (by omega) (by omega) _).mono ?_
 rintro e w2 ⟨x,rfl,hx0,hx1,hg2⟩
 refine ⟨_,rfl,fun _=>hg2,?_⟩
 simp only [Act.put,pB,pC,pD]
 have HI2:=LH ((HI.out.later (Keep.refl NoB w1).drew).later hg2)
 refine zG rfl rfl rfl rfl rfl Tryz.func194 rfl rfl [.agg #[.slice A a.length c,.int .i64 size,qL],.int .i64 s,.int .i64 i,.int .u64 x] rfl ?_
 refine (zRC a A c size false s i x hs hi (by omega) (by omega) w2 HI2.out.ar).mono ?_
 rintro e w3 ⟨A',c',rfl,hg3,har⟩
 refine ⟨_,rfl,fun _=>hg3,?_⟩
 simp only [Act.put,pB,pC,pD]
 have HI3:=LH (HI2.out.later hg3)
 have HX:Hid (0≤x∧x≤18446744073709551615):=LH ⟨hx0,hx1⟩
 have hro:=zcE (i:=i) hs HLIM.out HNUM.out HX.out.1 HX.out.2
 have hk5:=three w3 (B+2) (.slice A' a.length c') (.int .i64 size) (.bool false)
 have hrr:=HI3.out.r
 rw [HBB.out] at hrr
 have hfd:=HI2.out.fd
 have hff:=HI2.out.ff
 have hs2:=HI2.out.gr.size
 have hr2:=(gE HI2.out.r).1
 have hgr:=HI3.out.gr
 rw [HBB.out] at hfd hff hs2 hr2
 have HFIN:Hid (LayPost 0 a size false F w (.returned (.agg #[.slice A' a.length c',.int .i64 size,qL])) (((w3.setCell ⟨B+2,0,none⟩ (.slice A' a.length c')).setCell ⟨B+2,1,none⟩ (.int .i64 size)).setCell ⟨B+2,2,none⟩ (.bool false))):=by
  refine LH ⟨a.set s (a[s].set i x),false,A',c',NewF F w2 w3,by rw [hro.2.2.2.1],hgr.trans hk5 (fun j hj=>.inr (by rw [HBB.out];omega)),?_,fun j hj=>?_,hro.2.2.1,hro.1.big,hro.2.1,fun _=>hro.1,SmA.set hs⟩
  ·rw [hro.2.2.2.1]
   exact har.keep hk5 (fun j hj e=>by
    rcases hj with e2 | e2
    ·have:=hfd j e2;omega
    ·omega)
  ·rcases hj with e2 | e2
   ·exact .inl e2
   ·exact .inr (by rw [HBB.out];omega)
 have hput:=put3 (.slice A' a.length c') (.int .i64 size) (.bool false) hrr
 obtain ⟨y0,y1,y2,yf⟩:=zI hrr
 clear hx0 hx1 hg2 hg3 har hro hk5 hrr hfd hff hgr HI HI2 HI3
 refine zJ rfl rfl rfl rfl ?_ ?_ (fun h=>absurd (by simp) h) ?_
 rotate_left
 ·go_simp;with_reducible rfl
 refine zD ?_
 clear t0 t1 t2 tf n0 n1 n2 n3 n4 nf y0 y1 y2 yf
 obtain ⟨y0,y1,y2,yf⟩:=zI hput
 clear hput
 go_wp2
 refine bodyPost_ret (v:=.agg #[.slice A' a.length c',.int .i64 size,qL]) ?_ rfl HFIN.out
 rw [zO rfl];go_simp
theorem rset2 (a:List (List Int)) (A:Option Addr) (c:Nat) (size:Int) (seg i:Nat) (x:Int) (hs:seg<a.length) (hi:i<a[seg].length) (hlim:LimA a) (hnum:NumA a) (h0:0≤x) (h1:x≤18446744073709551615) (w:World) {F:Nat→Prop} (hF:Foot (RowsU a (.slice A a.length c)) w F) :
    Calls Tryz.prog 194 #[.agg #[.slice A a.length c,.int .i64 size,qL],.int .i64 seg,.int .i64 i,.int .u64 x] w fun e w'=>∃ a' A' c',e=.returned (.agg #[.slice A' a'.length c',.int .i64 size,qL])∧Grow w w'∧Foot (RowsU a' (.slice A' a'.length c')) w' (NewF F w w')∧LimA a'∧NumA a'∧ExtA a a'∧a'.length=a.length∧(∀ j,(a'.getD j []).length=(a.getD j []).length)∧SmA 0 a size false a' false:=by
 have hl:=hlim.1
 have hl2:=hlim.2 _ (List.getElem_mem hs)
 have hro:=zcE (i:=i) hs hlim hnum h0 h1
 refine (zRC a A c size false seg i x hs hi (by omega) (by omega) w hF).mono ?_
 rintro e w' ⟨A',c',rfl,hg,har⟩
 exact ⟨_,A',c',by rw [hro.2.2.2.1],hg,by rw [hro.2.2.2.1];exact har,hro.1,hro.2.1,hro.2.2.1,hro.2.2.2.1,hro.2.2.2.2,SmA.set hs⟩
theorem zqB (a:List (List Int)) (A:Option Addr) (c:Nat) (size:Int) (full:Bool) (seg:Nat) (l:List Int) (Al:Option Addr) (cl:Nat) (hs:seg≤a.length) (hla:a.length≤100) (hls:∀ s∈a,s.length≤100000) (hll:l.length≤100000) (hlim:full=false→LimA a) (hnum:NumA a) (hlw:okW l) (hz:size≤4096) (w:World) {F:Nat→Prop} (hF:Foot (RowsU a (.slice A a.length c)) w F) (hl:SliceR 1 (.slice Al l.length cl) l.length (u64s l) w) :
    Calls Tryz.prog 196 #[.agg #[.slice A a.length c,.int .i64 size,.bool full],.int .i64 seg,.slice Al l.length cl] w fun e w'=>∃ a' A' c' fl,e=.returned (.agg #[.slice A' a'.length c',.int .i64 size,.bool fl])∧Grow w w'∧Foot (RowsU a' (.slice A' a'.length c')) w' (NewF F w w')∧NumA a'∧ExtA a a'∧(a'.getD seg []).length=(a.getD seg []).length+l.length∧seg<a'.length∧a'.length≤a.length+1∧(∀ B,(∀ s∈a,s.length≤B)→∀ s∈a',s.length≤B+l.length)∧(seg<a.length→a'.length=a.length)∧(fl=false→LimA a')∧(seg<a.length→SmA l.length a size full a' fl):=by
 refine (zCH a A c size full seg l Al cl hs hla hls hll w hF hl).mono ?_
 rintro e w' ⟨A',c',rfl,hg,har⟩
 have hm:=zkK hs hnum hlw
 exact ⟨_,A',c',_,rfl,hg,har,hm.1,hm.2.1,hm.2.2.1,hm.2.2.2.1,hm.2.2.2.2.1,hm.2.2.2.2.2.1,hm.2.2.2.2.2.2,fun hf=>(zcJ hs hz hlim hf).2,fun h=>SmA.more h hz⟩
theorem zmK (l0:Nat) (ih:LayAt l0) (k z:Int) (ws bs:List Int) (rows:List (Tr×Value×Value×Value)) (A1 A2 A3:Option Addr) (c1 c2 c3:Nat) (h1:ws.length≤10000) (h2:bs.length≤10000) (h3:rows.length≤10000) (hk0:k≠0) (a:List (List Int)) (size:Int) (A:Option Addr) (c s i:Nat) (w:World) (F:Nat→Prop) (hF:Foot (RowsU a (.slice A a.length c)) w F) (hlim:LimA a) (hnum:NumA a) (hz0:0≤size) (hz1:size≤4096) (hs:s<a.length) (hi:i<a[s].length)
    (hcl:needN k ws.length bs.length rows.length=ws.length+(bs.length+7)/8+rows.length) (hn:needN k ws.length bs.length rows.length≠0) (hnb:ws.length+(bs.length+7)/8+rows.length≤5000) (hws:okW ws) (hbs:∀ x∈bs,0≤x∧x≤255) (hW:SliceR 1 (.slice A1 ws.length c1) ws.length (u64s ws) w) (hB:SliceR 1 (.slice A2 bs.length c2) bs.length (u8s bs) w) (hR:SliceR 5 (.slice A3 rows.length c3) rows.length (kcs rows) w) (hr:∀ r,r∈rows→TrR w r.1 r.2.1 r.2.2.1 r.2.2.2) (hrn:∀ r,r∈rows→TrN r.1) (hrb:∀ r,r∈rows→rightB l0 r.1=true) (hsl:s+1=a.length) (hfit:(a[s].length:Int)+needN k ws.length bs.length rows.length≤size) :
    Calls Tryz.prog 127 #[.agg #[.slice A a.length c,.int .i64 size,qL],.agg #[.int .i64 k,.int .i64 z,.slice A1 ws.length c1,.slice A2 bs.length c2,.slice A3 rows.length c3],.int .i64 s,.int .i64 i] w (LayPost (needN k ws.length bs.length rows.length+(rows.map (fun r=>needL l0 r.1)).sum) a size false F w):=by
 have HI:Hid (LI w (.cells #[.int .i64 k,.int .i64 z,.slice A1 ws.length c1,.slice A2 bs.length c2,.slice A3 rows.length c3] 114) F a A c size false F _):=LH (LI.start hF)
 have HLIM:=LH hlim
 have HNUM:=LH hnum
 have HIH:=LH ih
 have HCL:=LH hcl
 have HWS:=LH hws
 have HBS:=LH hbs
 have HW:=LH hW
 have HB:=LH hB
 have HR:=LH hR
 have HRR:=LH hr
 have HRN:=LH hrn
 have HRB:=LH hrb
 have HA0:=LH (ExtA.refl a)
 have hkb:(k==0)=false:=beq_eq_false_iff_ne.2 hk0
 have hl16:=hlim.1
 have hi4:=hlim.2 _ (List.getElem_mem hs)
 obtain ⟨nd,hnd⟩:∃ nd,needN k ws.length bs.length rows.length=nd:=⟨_,rfl⟩
 have HND:=LH hnd
 have hndb:nd≤5000:=by omega
 have hnd0:((nd:Int)==0)=false:=beq_eq_false_iff_ne.2 (by omega)
 obtain ⟨L,hL⟩:∃ L,a.length=L+1:=⟨a.length-1,by omega⟩
 have hLl:L<a.length:=by omega
 have hLi:(L:Int)<a.length:=by omega
 have hwL:IntKind.i64.wrap ((a.length:Int)-1)=(L:Int):=by rw [IntWalk.i64_in _ (by omega)];omega
 have HL:=LH hL
 obtain ⟨P,hP⟩:∃ P,a[L].length=P:=⟨_,rfl⟩
 have HP:=LH hP
 have hPb:P≤4096:=by rw [← hP];exact hlim.2 _ (List.getElem_mem hLl)
 have hwP:IntKind.i64.wrap ((P:Int)+nd)=(P:Int)+nd:=IntWalk.i64_in _ (by omega)
 obtain ⟨I,hI⟩:∃ I,a[s].length=I:=⟨_,rfl⟩
 rw [hI] at hi hi4
 have HI2:=LH hI
 obtain rfl:s=L:=by omega
 obtain rfl:P=I:=by rw [← hP,← hI]
 rw [hnd,hI] at hfit
 have hsb:((s:Int)==s)=true:=by simp
 have hwi:IntKind.i64.wrap ((P:Int)-i)=(P:Int)-i:=IntWalk.i64_in _ (by omega)
 have hwi2:IntKind.i64.wrap ((P:Int)-i-1)=(P:Int)-i-1:=IntWalk.i64_in _ (by omega)
 clear hF hlim hnum ih hcl hws hbs hW hB hR hr hrn hrb hn hnd hL hP hI hk0
 go_enter Tryz.func127,Tryz.ntmps127
 go_wp2_with fail
 refine (zoA k z A1 A2 A3 ws.length bs.length rows.length c1 c2 c3 (by omega) (by omega) (by omega) _).mono ?_
 rintro e w1 ⟨rfl,hg⟩
 rw [HND.out]
 replace HI:=LH (HI.out.later hg)
 clear hg
 obtain ⟨ad,Ah,ch,rfl,hcell,_⟩:=RowsU.at_ HI.out.ar.now s hLl
 rw [HP.out] at hcell
 obtain ⟨t0,t1,t2,tf⟩:=zI HI.out.t
 obtain ⟨n0,n1,n2,n3,n4,nf⟩:=zA HI.out.nd
 go_wp2
 refine zE [0,1,2,3,4,5,6,7,8,9,10] [8,9,10] [0,3] [10] rfl (by kernel_rfl) ?_
 refine oc3 t0 t1 t2 ?_
 iterate 2
  refine ord_p ?_
 refine oc5 n0 n1 n2 n3 n4 ?_
 iterate 4
  refine ord_p ?_
 refine zG rfl rfl rfl rfl rfl Tryz.func195 rfl rfl [.agg #[.int .i64 k,.int .i64 z,.slice A1 ws.length c1,.slice A2 bs.length c2,.slice A3 rows.length c3],.int .i64 ((P:Int)-i-1)] rfl ?_
 refine (zfA k z ((P:Int)-i-1) A1 A2 A3 ws.length bs.length rows.length c1 c2 c3 (by omega) (by omega) (by omega) _).mono ?_
 rintro e w2 ⟨x,rfl,hx0,hx1,hg2⟩
 refine ⟨_,rfl,fun _=>hg2,?_⟩
 simp only [Act.put,pB,pC,pD]
 have HI2:=LH ((HI.out.later (Keep.refl NoB w1).drew).later hg2)
 refine zG rfl rfl rfl rfl rfl Tryz.func194 rfl rfl [.agg #[.slice (some ad) a.length c,.int .i64 size,qL],.int .i64 s,.int .i64 i,.int .u64 x] rfl ?_
 refine (rset2 a (some ad) c size s i x hs (by rw [HP.out];exact hi) HLIM.out HNUM.out hx0 hx1 w2 HI2.out.ar).mono ?_
 rintro e w3 ⟨a2,A',c',rfl,hg3,har,hlim2,hnum2,hext2,hlen2,heach2,hsm2⟩
 refine ⟨_,rfl,fun _=>hg3,?_⟩
 simp only [Act.put,pB,pC,pD]
 have HI3:=LH (HI2.out.put (full':=false) hg3 har (fun j hj=>hj.imp id (fun h=>h.1)))
 have hr1:=(HI2.out.later hg3)
 have HTS:Hid (ExtA a a2∧a2.length≤17∧(∀ s∈a2,s.length≤4097)∧NumA a2∧(false=false→LimA a2)∧s<a2.length∧(a2.getD s []).length=P):=LH ⟨hext2,by have:=hlim2.1;omega,fun y hy=>by have:=hlim2.2 y hy;omega,hnum2,fun _=>hlim2,by omega,by rw [heach2,← HP.out];simp [hs]⟩
 have HSM2:=LH hsm2
 obtain ⟨y0,y1,y2,yf⟩:=zI hr1.t
 clear hsm2 hx0 hx1 hg2 hg3 har hlim2 hnum2 hext2 hlen2 heach2 hr1 HI2 HI
 refine zJ rfl rfl rfl rfl ?_ ?_ (fun h=>absurd (by simp) h) ?_
 rotate_left
 ·go_simp;with_reducible rfl
 refine zD ?_
 clear y0 y1 y2 yf t0 t1 t2 tf n0 n1 n2 n3 n4 nf hcell
 generalize ((w3.setCell ⟨w.heap.size,0,none⟩ (.slice A' a2.length c')).setCell ⟨w.heap.size,1,none⟩ (.int .i64 size)).setCell ⟨w.heap.size,2,none⟩ (.bool false)=w4 at HI3 ⊢
 go_wp2
 obtain ⟨t0,t1,t2,tf⟩:=zI HI3.out.t
 obtain ⟨n0,n1,n2,n3,n4,nf⟩:=zA HI3.out.nd
 have HG1:=LH (HI3.out.gr.drew)
 refine zE [0,1,2,3,4,5] [3,4,5] [0,2] [5] rfl (by kernel_rfl) ?_
 refine oc3 t0 t1 t2 ?_
 refine ord_p ?_
 refine oc5 n0 n1 n2 n3 n4 ?_
 refine zG rfl rfl rfl rfl rfl Tryz.func198 rfl rfl [.agg #[.int .i64 k,.int .i64 z,.slice A1 ws.length c1,.slice A2 bs.length c2,.slice A3 rows.length c3]] rfl ?_
 refine (zCB k z ws bs rows.length A1 A2 A3 c1 c2 c3 (by omega) (by omega) (by omega) HWS.out HBS.out _ (HW.out.grow HG1.out) (HB.out.grow HG1.out)).mono ?_
 rintro e w5 ⟨l,Al,cl,rfl,hll,hlw,hg5,hsl5⟩
 refine ⟨_,rfl,fun _=>hg5,?_⟩
 simp only [Act.put,pB,pC,pD]
 have HT5:=LH ((HI3.out.later (Keep.refl NoB w4).drew).later hg5)
 have hlb:l.length≤5000:=by omega
 have hlnd:l.length=nd:=by rw [hll,← HCL.out,HND.out]
 refine zG rfl rfl rfl rfl rfl Tryz.func196 rfl rfl [.agg #[.slice A' a2.length c',.int .i64 size,qL],.int .i64 s,.slice Al l.length cl] rfl ?_
 refine (zqB a2 A' c' size false s l Al cl (by have:=HTS.out.2.2.2.2.2.1;omega) (by have:=HTS.out.2.1;omega) (fun y hy=>by have:=HTS.out.2.2.1 y hy;omega) (by omega) (by simpa using HTS.out.2.2.2.2.1) HTS.out.2.2.2.1 hlw hz1 w5 HT5.out.ar hsl5).mono ?_
 rintro e w6 ⟨a3,A5,c5,fl3,rfl,hg6,har6,hnum3,hext3,hlen3,hsg3,_,hbb3,hal3,hlim3,hsm3⟩
 refine ⟨_,rfl,fun _=>hg6,?_⟩
 simp only [Act.put,pB,pC,pD]
 have HT6:=LH (HT5.out.put (full':=fl3) hg6 har6 (fun j hj=>hj.imp id (fun h=>h.1)))
 have hr1:=HT5.out.later hg6
 have HQS:Hid (ExtA a a3∧BigA a3∧NumA a3∧(fl3=false→LimA a3)∧s<a3.length∧P+nd≤(a3.getD s []).length) :=
  LH ⟨HTS.out.1.trans hext3,⟨by have:=HTS.out.2.1;have:=hal3 HTS.out.2.2.2.2.2.1;omega,fun y hy=>by have:=hbb3 4097 HTS.out.2.2.1 y hy;omega⟩,hnum3,hlim3,hsg3,by rw [hlen3,HTS.out.2.2.2.2.2.2,hlnd];exact Nat.le_refl _⟩
 have HSM3:Hid (SmA (nd+((rows.take 0).map (fun r=>needL l0 r.1)).sum) a size false a3 fl3):=LH (by have h9:=HSM2.out.trans (hsm3 HTS.out.2.2.2.2.2.1);rw [hlnd] at h9;simpa using h9)
 obtain ⟨y0,y1,y2,yf⟩:=zI hr1.t
 clear hsm3 HSM2 hg5 hsl5 hg6 har6 hnum3 hext3 hlen3 hsg3 hbb3 hal3 hlim3 hr1 HT5 HI3 HTS hll hlw hlb hlnd
 refine zJ rfl rfl rfl rfl ?_ ?_ (fun h=>absurd (by simp) h) ?_
 rotate_left
 ·go_simp;with_reducible rfl
 refine zD ?_
 clear y0 y1 y2 yf t0 t1 t2 tf n0 n1 n2 n3 n4 nf
 generalize ((w6.setCell ⟨w.heap.size,0,none⟩ (.slice A5 a3.length c5)).setCell ⟨w.heap.size,1,none⟩ (.int .i64 size)).setCell ⟨w.heap.size,2,none⟩ (.bool fl3)=w7 at HT6 ⊢
 have hkn:rows.length≤nd:=by rw [← HND.out,HCL.out];omega
 have hwa:IntKind.i64.wrap ((P:Int)+nd)=(P:Int)+nd:=IntWalk.i64_in _ (by omega)
 have hwb:IntKind.i64.wrap ((P:Int)+nd-rows.length)=(P:Int)+nd-rows.length:=IntWalk.i64_in _ (by omega)
 go_wp2
 go_loopw [14] (fun v wr=>∃ (j:Nat) (a4:List (List Int)) (A4:Option Addr) (c4:Nat) (fl4:Bool) (F4:Nat→Prop),j≤rows.length∧v=.int .i64 j∧Hid (LI w (.cells #[.int .i64 k,.int .i64 z,.slice A1 ws.length c1,.slice A2 bs.length c2,.slice A3 rows.length c3] 114) F a4 A4 c4 size fl4 F4 wr∧ExtA a a4∧BigA a4∧NumA a4∧(fl4=false→LimA a4)∧s<a4.length∧P+nd≤(a4.getD s []).length)∧Hid (SmA (nd+((rows.take j).map (fun r=>needL l0 r.1)).sum) a size false a4 fl4)) (fun v _=>rows.length-(intOf v).toNat)
 case atStart=>exact ⟨0,a3,A5,c5,fl3,_,by omega,rfl,LH ⟨HT6.out,HQS.out⟩,HSM3⟩
 case round =>
  clear HT6 HQS
  obtain ⟨j,a4,A4,c4,fl4,F4,hj,rfl,HH,HSM4⟩:=hrel
  obtain ⟨t0,t1,t2,tf⟩:=zI HH.out.1.t
  obtain ⟨n0,n1,n2,n3,n4,nf⟩:=zA HH.out.1.nd
  by_cases hlt:j<rows.length
  ·have hlt':(j:Int)<rows.length:=by omega
   have hwj:IntKind.i64.wrap ((j:Int)+1)=(j:Int)+1:=IntWalk.i64_in _ (by omega)
   obtain ⟨Q,hQ⟩:∃ Q:Nat,P+nd-rows.length+j=Q:=⟨_,rfl⟩
   have hwc:IntKind.i64.wrap ((P:Int)+nd-rows.length+j)=(Q:Int):=by rw [IntWalk.i64_in _ (by omega)];omega
   have hQl:Q<(a4.getD s []).length:=by have:=HH.out.2.2.2.2.2.2;omega
   obtain ⟨a3d,rfl,q0,q1,q2,q3,q4⟩:=zuA (HR.out.grow HH.out.1.gr) j hlt
   have hT:=(HRR.out _ (List.getElem_mem hlt)).grow HH.out.1.gr.drew
   obtain ⟨B1,g1,B2,g2,B3,g3,e1,e2,e3⟩:=hT.parts
   rw [e1] at q2
   rw [e2] at q3
   rw [e3] at q4
   have hIH:=HIH.out rows[j].1 _ _ _ a4 size fl4 A4 c4 s Q wr.drew F4 hT (HRN.out _ (List.getElem_mem hlt)) (HRB.out _ (List.getElem_mem hlt)) (HH.out.1.ar.grow (Keep.refl NoB wr).drew) HH.out.2.2.1 HH.out.2.2.2.1 HH.out.2.2.2.2.1 hz0 hz1 HH.out.2.2.2.2.2.1 hQl
   rw [e1,e2,e3] at hIH
   have HCALL:=LH hIH
   clear hIH hT e1 e2 e3 hQ
   go_wp2
   refine zE [0,1,2,3,4,5,6,7,8,9,10,11,12,13,14,15,16,17] [16,17] [0,2,5,11] [17] rfl (by kernel_rfl) ?_
   refine oc3 t0 t1 t2 ?_
   refine ord_p ?_
   refine oc1 n4 ?_
   iterate 2
    refine ord_p ?_
   refine ord_r (y:=by intro w' hg;have p0:=hg.cell q0 (fun h=>h);have p1:=hg.cell q1 (fun h=>h);have p2:=hg.cell q2 (fun h=>h);have p3:=hg.cell q3 (fun h=>h);have p4:=hg.cell q4 (fun h=>h);go_simp;with_reducible rfl) (z:=?_)
   iterate 5
    refine ord_p ?_
   refine oc1 n4 ?_
   iterate 4
    refine ord_p ?_
   refine zG rfl rfl rfl rfl rfl Tryz.func127 rfl rfl [.agg #[.slice A4 a4.length c4,.int .i64 size,.bool fl4],.agg #[.int .i64 rows[j].1.kind,.int .i64 rows[j].1.size,.slice B1 rows[j].1.ws.length g1,.slice B2 rows[j].1.bs.length g2,.slice B3 rows[j].1.kids.length g3],.int .i64 s,.int .i64 Q] rfl ?_
   refine HCALL.out.mono ?_
   rintro e w8 ⟨a5,fl5,A6,c6,F5,rfl,hg8,har8,hF8,hext5,hbig5,hnum5,hlim5,hsm5⟩
   refine ⟨_,rfl,fun _=>hg8,?_⟩
   simp only [Act.put,pB,pC,pD]
   have HI8:=LH ((HH.out.1.later (Keep.refl NoB wr).drew).put (full':=fl5) hg8 har8 hF8)
   have hr1:=(HH.out.1.later (Keep.refl NoB wr).drew).later hg8
   have HQ5:Hid (ExtA a a5∧BigA a5∧NumA a5∧(fl5=false→LimA a5)∧s<a5.length∧P+nd≤(a5.getD s []).length):=LH ⟨HH.out.2.1.trans hext5,hbig5,hnum5,hlim5,Nat.lt_of_lt_of_le HH.out.2.2.2.2.2.1 hext5.1,Nat.le_trans HH.out.2.2.2.2.2.2 (hext5.2 _ HH.out.2.2.2.2.2.1)⟩
   obtain ⟨y0,y1,y2,yf⟩:=zI hr1.t
   have HSM5:Hid (SmA (nd+((rows.take (j+1)).map (fun r=>needL l0 r.1)).sum) a size false a5 fl5):=LH (by rw [List.take_succ_eq_append_getElem hlt,List.map_append,List.sum_append,← Nat.add_assoc];simpa using HSM4.out.trans hsm5)
   clear hg8 har8 hF8 hext5 hbig5 hnum5 hlim5 hsm5 hr1 HCALL HSM4
   refine zJ rfl rfl rfl rfl ?_ ?_ (fun h=>absurd (by simp) h) ?_
   rotate_left
   ·go_simp;with_reducible rfl
   refine zD ?_
   clear y0 y1 y2 yf t0 t1 t2 tf n0 n1 n2 n3 n4 nf q0 q1 q2 q3 q4 HH
   generalize ((w8.setCell ⟨w.heap.size,0,none⟩ (.slice A6 a5.length c6)).setCell ⟨w.heap.size,1,none⟩ (.int .i64 size)).setCell ⟨w.heap.size,2,none⟩ (.bool fl5)=w9 at HI8 ⊢
   go_wp2
   go_roundw
   case rel=>exact ⟨j+1,a5,A6,c6,fl5,F5,by omega,by go_num,LH ⟨HI8.out,HQ5.out⟩,HSM5⟩
   case measure=>simp [intOf];omega
  ·obtain rfl:j=rows.length:=by omega
   have hlt':¬ ((rows.length:Int)<rows.length):=by omega
   obtain ⟨y0,y1,y2,yf⟩:=zI HH.out.1.r
   have hk5:=three wr (w.heap.size+2) (.slice A4 a4.length c4) (.int .i64 size) (.bool fl4)
   have HFIN:Hid (LayPost (needN k ws.length bs.length rows.length+(rows.map (fun r=>needL l0 r.1)).sum) a size false F w (.returned (.agg #[.slice A4 a4.length c4,.int .i64 size,.bool fl4])) (((wr.setCell ⟨w.heap.size+2,0,none⟩ (.slice A4 a4.length c4)).setCell ⟨w.heap.size+2,1,none⟩ (.int .i64 size)).setCell ⟨w.heap.size+2,2,none⟩ (.bool fl4))) :=
    LH ⟨a4,fl4,A4,c4,F4,rfl,HH.out.1.gr.trans hk5 (fun i hi=>.inr (by omega)),HH.out.1.ar.keep hk5 (fun i hi e=>by have:=HH.out.1.fd i hi;omega),HH.out.1.ff,HH.out.2.1,HH.out.2.2.1,HH.out.2.2.2.1,HH.out.2.2.2.2.1,by rw [HND.out];simpa using HSM4.out⟩
   have hput:=put3 (.slice A4 a4.length c4) (.int .i64 size) (.bool fl4) HH.out.1.r
   clear hk5
   obtain ⟨x0,x1,x2,xf⟩:=zI hput
   clear hput HH HSM4
   go_wp2
   refine bodyPost_ret (v:=.agg #[.slice A4 a4.length c4,.int .i64 size,.bool fl4]) ?_ rfl HFIN.out
   rw [zO rfl];go_simp
end Go.Proofs.YtfkcpaahdlkcdaaGreat

import Derived.WalkKit
import Derived.ProofKit
import Derived.Deep.RegionHeld3
import Derived.Deep.RegionLaw
import Derived.Deep.QuietTactic
import Derived.BigQuiet
import Derived.Lib.Hide
import Derived.Deep.AppendLies
import Derived.Deep.AppendSrc
import Derived.KernelRfl
import Derived.Handy
import Derived.Lib.SlBytesConst
import Derived.Laws.BytesArg
import Derived.WalkSpells
import Derived.WalkLawsBesides
import Derived.Test.YtfkcpaahdlkcdaaGreatProg
import Derived.OrdersHeld
import Derived.LoopTactic
import Derived.Laws.Bits64b
set_option linter.unusedSimpArgs false
set_option linter.unusedVariables false
set_option maxRecDepth 100000
set_option maxHeartbeats 16000000
namespace Go.Proofs.YtfkcpaahdlkcdaaGreat
theorem pB {α : Type} (l : List α) (i : Nat) (a : α) : l.toArray.setIfInBounds i a = (l.set i a).toArray := List.setIfInBounds_toArray ..
theorem pC {α : Type} (x : α) (l : List α) (a : α) : (x :: l).set 0 a = a :: l := List.set_cons_zero ..
theorem pD {α : Type} (x : α) (l : List α) (i : Nat) (a : α) : (x :: l).set (i + 1) a = x :: l.set i a := List.set_cons_succ ..
theorem LH {p : Prop} (h : p) : RowKit.Hid p := h
theorem gE {α : Type} {xs : Array α} {i : Nat} {b : α} : xs[i]? = some b → ∃ h : i < xs.size, xs[i] = b := Array.getElem?_eq_some_iff.1
end Go.Proofs.YtfkcpaahdlkcdaaGreat
namespace Go.Proofs.YtfkcpaahdlkcdaaGreat
open Go.RowKit
structure Keep (S:Nat→Prop) (w w':World):Prop where
 os:w'.os=w.os
 tape:w'.tape=w.tape
 output:w'.output=w.output
 size:w.heap.size≤w'.heap.size
 block:∀ k,k<w.heap.size→¬ S k→w'.heap[k]? = w.heap[k]?
def NoB:Nat→Prop:=fun _=>False
abbrev Grow (w w':World):Prop:=Keep NoB w w'
namespace Keep
variable {S T:Nat→Prop} {a b c:World}
theorem refl (S:Nat→Prop) (w:World):Keep S w w:=⟨rfl,rfl,rfl,Nat.le_refl _,fun _ _ _=>rfl⟩
theorem trans (h:Keep S a b) (k:Keep T b c) (hT:∀ i,T i→S i∨a.heap.size≤i):Keep S a c :=
 ⟨k.os.trans h.os,k.tape.trans h.tape,k.output.trans h.output,Nat.le_trans h.size k.size,fun i hi hS =>
  (k.block i (Nat.lt_of_lt_of_le hi h.size) (fun ht=>(hT i ht).elim hS (fun hge=>absurd hi (Nat.not_lt.2 hge)))).trans (h.block i hi hS)⟩
theorem mono (h:Keep S a b) (hS:∀ i,S i→T i):Keep T a b:=⟨h.os,h.tape,h.output,h.size,fun i hi hT=>h.block i hi (fun hs=>hT (hS i hs))⟩
theorem grow (h:Keep S a b) (k:Grow b c):Keep S a c:=h.trans k (fun _ hf=>hf.elim)
theorem drew (h:Keep S a b):Keep S a b.drew:=⟨h.os,h.tape,h.output,h.size,h.block⟩
theorem alloc (h:Keep S a b) (o:Obj):Keep S a (b.alloc o) :=
 h.trans (T:=NoB) ⟨rfl,rfl,rfl,by simp,fun k hk _=>Below.heap_alloc _ _ _ hk⟩ (fun _ hf=>hf.elim)
theorem setCell (h:Keep S a b) {p:Addr} (hp:S p.block∨a.heap.size≤p.block) (u:Value):Keep S a (b.setCell p u) :=
 h.trans (T:=fun k=>k=p.block) ⟨rfl,rfl,rfl,by simp [World.setCell],fun k _ hne=>Below.heap_setCell _ _ _ _ hne⟩ (fun i hi=>by rw [hi];exact hp)
theorem grown (h:Keep S a b) {row:Option Nat} (hg:b.grownBy c row) (hr:∀ k,row=some k→S k∨a.heap.size≤k):Keep S a c :=
 h.trans (T:=fun k=>row=some k) ⟨hg.os,hg.tape,hg.output,hg.size,fun k hk hne=>hg.block k hk (fun e=>hne e.symm)⟩ hr
theorem of_below (h:Below a.heap.size a b):Grow a b:=⟨h.os,h.tape,h.output,h.size,fun k hk _=>h.block k hk⟩
theorem below (h:Keep S a b) (B:Nat) (hB:B≤a.heap.size) (hS:∀ i,S i→B≤i):Below B a b :=
 ⟨h.os,h.tape,h.output,h.size,fun k hk=>h.block k (Nat.lt_of_lt_of_le hk hB) (fun hs=>absurd hk (Nat.not_lt.2 (hS k hs)))⟩
theorem new (h:Keep S a b) (hS:∀ i,S i→a.heap.size≤i):Grow a b:=⟨h.os,h.tape,h.output,h.size,fun k hk _=>h.block k hk (fun hs=>absurd hk (Nat.not_lt.2 (hS k hs)))⟩
theorem cell (h:Keep S a b) {p:Addr} {v:Value} (hc:a.cell? p=some v) (hS:¬ S p.block):b.cell? p=some v :=
 (World.cell?_of_block (w:=a) (h.block p.block (World.block_lt_of_cell? _ _ hc) hS)).trans hc
theorem frozen (h:Keep S a b) {p:Addr} (hc:p.block<a.heap.size) (hS:¬ S p.block):b.frozen? p=a.frozen? p :=
 World.frozen?_of_block (w:=a) (h.block p.block hc hS)
end Keep
def Foot (P:World→Prop) (W:World) (F:Nat→Prop):Prop:=(∀ k,F k→k<W.heap.size)∧∀ W':World,(∀ k,F k→W'.heap[k]? = W.heap[k]?)→P W'
namespace Foot
variable {P Q:World→Prop} {W W':World} {F G S:Nat→Prop}
theorem now (h:Foot P W F):P W:=h.2 W (fun _ _=>rfl)
theorem lt (h:Foot P W F) {k:Nat} (hk:F k):k<W.heap.size:=h.1 k hk
theorem keep (h:Foot P W F) (hk:Keep S W W') (hd:∀ k,F k→¬ S k):Foot P W' F :=
 ⟨fun k hF=>Nat.lt_of_lt_of_le (h.1 k hF) hk.size,fun W2 h2=>h.2 W2 (fun k hF=>(h2 k hF).trans (hk.block k (h.1 k hF) (hd k hF)))⟩
theorem grow (h:Foot P W F) (hk:Grow W W'):Foot P W' F:=h.keep hk (fun _ _ hf=>hf.elim)
theorem imp (h:Foot P W F) (hi:∀ W',P W'→Q W'):Foot Q W F:=⟨h.1,fun W' hW=>hi W' (h.2 W' hW)⟩
theorem and (h:Foot P W F) (k:Foot Q W G):Foot (fun w=>P w∧Q w) W (fun i=>F i∨G i) :=
 ⟨fun i hi=>hi.elim (h.1 i) (k.1 i),fun W' hW=>⟨h.2 W' (fun i hi=>hW i (.inl hi)),k.2 W' (fun i hi=>hW i (.inr hi))⟩⟩
theorem mono (h:Foot P W F) (hG:∀ k,G k→k<W.heap.size) (hFG:∀ k,F k→G k):Foot P W G:=⟨hG,fun W' hW=>h.2 W' (fun k hk=>hW k (hFG k hk))⟩
end Foot
theorem zKE {P:Program} {t e:TypeId} (h:P.underlying t=some (.slice e)) (w:World) (a:Option Addr) (n c:Nat):(binOp .eql t (.slice a n c) (.slice none 0 0)).run P w=.ok (.bool a.isNone) w:=by
 simp only [binOp]
 simp [Op.equal,Op.maxDepth,Lib.run_equalIn_slice_nil w 9999 t e a n c 0 0 h]
end Go.Proofs.YtfkcpaahdlkcdaaGreat
namespace Go.Proofs.YtfkcpaahdlkcdaaGreat
open Go.RowKit
section
variable {P:Program} (w:World)
theorem zND (t tx ty e:TypeId) (i:TypeInfo) (ht:P.underlying t=some (.slice e)) (hi:P.info? e=some i)
    (g sLen sCap:Nat) (cur:Array Value) (hg:w.heap[g]? = some (.cells cur e (0,0)))
    (x:Value) (m:Nat) (news:List Value) (hs:Src P i.size tx x m news w)
    (hroom:sLen+m≤sCap) (hfit:sLen*i.size+news.length≤cur.size) :
    (Builtin.append_ #[t,tx] ty #[.slice (some ⟨g,0,none⟩) sLen sCap,x]).run P w =
     .ok (.slice (some ⟨g,0,none⟩) (sLen+m) sCap) (w.setRow g (cur.toList.take (sLen*i.size)++news++cur.toList.drop (sLen*i.size+news.length)).toArray):=by
 have hst:=run_storeCells_at P g (sLen*i.size) e news 0 cur w hg (by simpa using hfit) hs.one
 simp only [Nat.add_zero] at hst
 rcases hs.kind with ⟨e',hk⟩ | hk <;> simp [Builtin.append_,run_underlying ht,run_underlying hk,sizeOf,typeInfo,hi,hs.len,hroom,hs.cells,Addr.add_lit,hst]
theorem zwG (base:Nat) (t tx ty e:TypeId) (i:TypeInfo) (z:Value) (size bytes:Nat) (ht:P.underlying t=some (.slice e)) (hi:P.info? e=some i) (hz:i.zero=some z)
    (hsize:i.size=size) (hby:i.bytes=bytes) (hzs:z.cells.size=size)
    (v:Value) (n:Nat) (xs:List Value) (hown:w.ownsRow base e size v n xs)
    (x:Value) (m:Nat) (news:List Value) (hs:Src P size tx x m news w)
    (h63:n+m≤maxLen) (hbytes:(n+m)*bytes≤140737488355328) (hbase:base≤w.heap.size) :
    ∃ v' w',(Builtin.append_ #[t,tx] ty #[v,x]).run P w=.ok v' w'∧w'.ownsRow base e size v' (n+m) (xs++news)∧w.grownBy w' v.ownBlock ∧
     (v'.ownBlock=v.ownBlock∨v'.ownBlock=some w.heap.size)∧(v'=.slice none 0 0↔v=.slice none 0 0∧m=0):=by
 subst hsize
 subst hby
 have hsmall:n+m≤9223372036854775807:=by simp only [maxLen] at h63;omega
 have hl:=hs.newsLen
 have hlen:(xs++news).length=(n+m)*i.size:=by rw [List.length_append,hown.1,hl,Nat.add_mul]
 have grown : ∀ (old : Nat), old < n + m → ∀ (row : Option Nat),
     (w.drew.alloc (.cells ((xs++news).toArray++Builtin.zeroCells z.cells (grownCap w (n+m) old e-(n+m))) e)).ownsRow base e i.size
      (.slice (some ⟨w.heap.size,0,none⟩) (n+m) (grownCap w (n+m) old e)) (n+m) (xs++news) ∧
     w.grownBy (w.drew.alloc (.cells ((xs++news).toArray++Builtin.zeroCells z.cells (grownCap w (n+m) old e-(n+m))) e)) row:=by
  intro old ho row
  have hge:=grownCap_ge w (n+m) old e
  have hcm:grownCap w (n+m) old e≤maxLen:=grownCap_le_maxLen w (n+m) old e h63
  refine ⟨⟨hlen,.inr ⟨w.heap.size,_,_,rfl,hbase,heap_alloc_new w.drew _,hge,hcm,?_,?_⟩⟩,⟨rfl,rfl,rfl,by simp,fun k hk _=>Below.heap_alloc w.drew _ k hk⟩⟩
  ·rw [Array.size_append,List.size_toArray,size_zeroCells,hzs,hlen,← Nat.add_mul]
   congr 1
   omega
  ·rw [Array.toList_append,← hlen]
   exact List.take_left
 rcases hown.2 with ⟨rfl,rfl⟩ | ⟨g,cap,cur,rfl,hbg,hg,hnc,hcm,hcs,htake⟩
 ·have hx:xs=[]:=List.eq_nil_of_length_eq_zero (by simpa using hown.1)
  subst hx
  by_cases hm:m=0
  ·subst hm
   have hn:news=[]:=List.eq_nil_of_length_eq_zero (by simpa using hl)
   subst hn
   refine ⟨.slice none 0 0,w,?_,World.ownsRow_nil w base e i.size,⟨rfl,rfl,rfl,Nat.le_refl _,fun _ _ _=>rfl⟩,.inl rfl,by simp⟩
   rcases hs.kind with ⟨e',hk⟩ | hk <;> simp [Builtin.append_,run_underlying ht,run_underlying hk,sizeOf,typeInfo,hi,hs.len,hs.cells]
  ·have hr:=run_append_grow_src (P:=P) w t tx ty e i z ht hi hz none 0 0 [] (run_firstCells_none w.drew i.size 0 0 0) x m news hs (by omega) (by omega) (growslice_fits (by omega) hbytes)
   have hgr:=grown 0 (by omega) (Value.ownBlock (.slice none 0 0))
   exact ⟨_,_,hr,hgr.1,hgr.2,.inr rfl,by simp [hm]⟩
 ·by_cases hroom:n+m≤cap
  ·have hfit:n*i.size+news.length≤cur.size:=by rw [hl,hcs,← Nat.add_mul];exact Nat.mul_le_mul_right _ hroom
   have hr:=zND (P:=P) w t tx ty e i ht hi g n cap cur hg x m news hs hroom hfit
   refine ⟨_,_,hr,⟨hlen,.inr ⟨g,cap,_,rfl,hbg,setRow_heap w g cur _ e _ hg,hroom,hcm,?_,?_⟩⟩,⟨rfl,rfl,rfl,by simp,fun k _ hk=>setRow_other w g k _ (fun e=>hk (by simp [Value.ownBlock,e]))⟩,.inl rfl,by simp⟩
   ·simp only [List.size_toArray,List.length_append,List.length_take,List.length_drop,Array.length_toList]
    omega
   ·rw [htake,← hlen]
    exact List.take_left
  ·have holds:∀ j u,xs[j]? = some u→w.cell? ((⟨g,0,none⟩:Addr).add j)=some u:=hown.cells (g:=g) rfl
   have hr:=run_append_grow_src (P:=P) w t tx ty e i z ht hi hz (some ⟨g,0,none⟩) n cap xs (run_firstCells_some w.drew i.size n ⟨g,0,none⟩ n cap xs hown.1 (by simpa using holds)) x m news hs (by omega) (by omega) (growslice_fits (by omega) hbytes)
   have hgr:=grown cap (by omega) (Value.ownBlock (.slice (some ⟨g,0,none⟩) n cap))
   exact ⟨_,_,hr,hgr.1,hgr.2,.inr rfl,by simp⟩
structure Apped (base e size:Nat) (v v':Value) (n:Nat) (xs:List Value) (w w':World) (isNil:Prop):Prop where
 own:w'.ownsRow base e size v' n xs
 grew:w.grownBy w' v.ownBlock
 at_:v'.ownBlock=v.ownBlock∨v'.ownBlock=some w.heap.size
 nil:v'=.slice none 0 0↔isNil
theorem zGL {o:Oper} {a:Act} {K:Act→World→Prop} {Q:Exit→Act→World→Prop} (s x:Operand) (t tx:TypeId)
    (ho:o.op=.call { callee:=.builtin .append,args:=#[s,x],argTypes:=#[t,tx] })
    (base:Nat) (e:TypeId) (z:Value) (size bytes:Nat) (ht:P.underlying t=some (.slice e)) (hinfo:(P.info? e).map (fun i=>(i.zero,i.size,i.bytes))=some (some z,size,bytes))
    (hzs:z.cells.size=size)
    (v:Value) (n:Nat) (xs:List Value) (hv:a.eval s=v)
    (xv:Value) (m:Nat) (news:List Value) (hx:a.eval x=xv)
    (h:∀ v' w',Apped base e size v v' (n+m) (xs++news) w w' (v=.slice none 0 0∧m=0)→K (a.put o.dst v') w')
    (hown:w.ownsRow base e size v n xs) (hs:Src P size tx xv m news w)
    (h63:n+m≤maxLen) (hbytes:(n+m)*bytes≤140737488355328) (hbase:base≤w.heap.size):o.wp P a w K Q:=by
 obtain ⟨i,hi,h1,h2,h3⟩:=info_parts hinfo
 obtain ⟨v',w',hr,g1,g2,g3,g4⟩:=zwG (P:=P) w base t tx o.type e i z size bytes ht hi h1 h2 h3 hzs v n xs hown xv m news hs h63 hbytes hbase
 unfold Oper.wp execOp
 simp only [ho,resolve,invoke,builtin,Sem.run_bind,Sem.run_pure,Result.andThen_ok,List.map_toArray,List.map_cons,List.map_nil,hv,hx,hr]
 exact h v' w' ⟨g1,g2,g3,g4⟩
theorem zL {ops:Array Oper} {rest:List Oper} {o:Oper} {a:Act} {Q:Exit→Act→World→Prop} (hgd:o.guard=none) (s x:Operand) (t tx:TypeId)
    (ho:o.op=.call { callee:=.builtin .append,args:=#[s,x],argTypes:=#[t,tx] })
    (base:Nat) (e:TypeId) (z:Value) (size bytes:Nat) (ht:P.underlying t=some (.slice e)) (hinfo:(P.info? e).map (fun i=>(i.zero,i.size,i.bytes))=some (some z,size,bytes))
    (hzs:z.cells.size=size)
    (v:Value) (n:Nat) (xs:List Value) (hv:a.eval s=v)
    (xv:Value) (m:Nat) (news:List Value) (hx:a.eval x=xv)
    (h:∀ v' w',Apped base e size v v' (n+m) (xs++news) w w' (v=.slice none 0 0∧m=0)→wpList P ops Q rest (a.put o.dst v') w')
    (hown:w.ownsRow base e size v n xs) (hs:Src P size tx xv m news w)
    (h63:n+m≤maxLen) (hbytes:(n+m)*bytes≤140737488355328) (hbase:base≤w.heap.size):wpList P ops Q (o :: rest) a w :=
 wpList_plain hgd fun _ hK=>zGL w s x t tx ho base e z size bytes ht hinfo hzs v n xs hv xv m news hx (fun v' w' h2=>hK _ _ (h v' w' h2)) hown hs h63 hbytes hbase
end
def Cells (w:World) (A:Option Addr) (vs:List Value):Prop:=∀ j u,vs[j]? = some u→∃ ad,A=some ad∧w.cell? (ad.add j)=some u
def SliceR (size:Nat) (v:Value) (n:Nat) (vs:List Value) (w:World):Prop:=∃ A c,v=.slice A n c∧n≤c∧vs.length=n*size∧(A=none→c=0)∧Cells w A vs
theorem SliceR.src {P:Program} {size tx e':Nat} {v:Value} {n:Nat} {vs:List Value} {w:World} (h:SliceR size v n vs w) (hk:P.underlying tx=some (.slice e')) (h1:∀ u∈vs,u.oneCell'=true):Src P size tx v n vs w:=by
 obtain ⟨A,c,rfl,hl,hv,hA,hc⟩:=h
 cases A with
 | none =>
  have h0:n=0:=by have:=hA rfl;omega
  subst h0
  have:vs=[]:=List.eq_nil_of_length_eq_zero (by simpa using hv)
  subst this
  exact Src.ofNil w hk c
 | some ad =>
  refine Src.ofSlice w hk ad n c vs hv (fun j u hu=>?_) h1
  obtain ⟨ad',e,hc'⟩:=hc j u hu
  injection e with e
  subst e
  exact hc'
theorem SliceR.of_own {base e size:Nat} {v:Value} {n:Nat} {vs:List Value} {w:World} (h:w.ownsRow base e size v n vs):SliceR size v n vs w:=by
 rcases h.2 with ⟨rfl,rfl⟩ | ⟨g,cap,cur,rfl,hbg,hg,hnc,hcm,hcs,htake⟩
 ·exact ⟨none,0,rfl,Nat.le_refl _,h.1,fun _=>rfl,fun j u hu=>by
    have hv:vs=[]:=List.eq_nil_of_length_eq_zero (by simpa using h.1)
    rw [hv] at hu
    simp at hu⟩
 ·exact ⟨_,cap,rfl,hnc,h.1,fun e=>(by cases e),fun j u hu=>⟨⟨g,0,none⟩,rfl,h.cells (g:=g) rfl j u hu⟩⟩
theorem zZE (a:Addr) (n:Nat):(a.add n).block=a.block:=by unfold Addr.add;split <;> rfl
theorem Cells.keep {S:Nat→Prop} {w w':World} {A:Option Addr} {vs:List Value} (h:Cells w A vs) (hk:Keep S w w') (hS:∀ ad,A=some ad→¬ S ad.block):Cells w' A vs:=fun j u hu=>by
 obtain ⟨ad,e,hc⟩:=h j u hu
 exact ⟨ad,e,hk.cell hc (by rw [zZE];exact hS ad e)⟩
theorem Cells.grow {w w':World} {A:Option Addr} {vs:List Value} (h:Cells w A vs) (hk:Grow w w'):Cells w' A vs:=h.keep hk (fun _ _ hf=>hf)
theorem SliceR.grow {size:Nat} {v:Value} {n:Nat} {vs:List Value} {w w':World} (h:SliceR size v n vs w) (hk:Grow w w'):SliceR size v n vs w':=by
 obtain ⟨A,c,h1,h2,h3,h4,h5⟩:=h
 exact ⟨A,c,h1,h2,h3,h4,h5.grow hk⟩
theorem Cells.old {S:Nat→Prop} {w w':World} {A:Option Addr} {vs:List Value} {B:Nat} (h:Cells w A vs) (hk:Keep S w w') (hA:∀ ad,A=some ad→ad.block<B) (hS:∀ k,S k→B≤k):Cells w' A vs :=
 h.keep hk (fun ad e hs=>absurd (hA ad e) (Nat.not_lt.2 (hS _ hs)))
theorem SliceR.of_block {size n c g T:Nat} {cs:Array Value} {fr:Nat×Nat} {w:World} (h:w.heap[g]? = some (.cells cs T fr)) (hn:n≤c) (hs:cs.size=n*size):SliceR size (.slice (some ⟨g,0,none⟩) n c) n cs.toList w :=
 ⟨_,c,rfl,hn,by simpa using hs,(fun e=>by cases e),fun j u hu=>⟨_,rfl,World.news_of_block h j u hu⟩⟩
theorem zJ {base e size n:Nat} {v:Value} {xs:List Value} {w:World} (h:w.ownsRow base e size v n xs):∃ A c,v=.slice A n c∧n≤c∧(∀ k,v.ownBlock=some k→A=some ⟨k,0,none⟩)∧(A=none→n=0∧c=0):=by
 rcases h.2 with ⟨rfl,rfl⟩ | ⟨g,cap,cur,rfl,hg,hh,hn,r⟩
 ·exact ⟨none,0,rfl,Nat.le_refl _,by simp [Value.ownBlock],fun _=>⟨rfl,rfl⟩⟩
 ·exact ⟨_,cap,rfl,hn,by simp [Value.ownBlock],by simp⟩
theorem zE {base e size n:Nat} {v:Value} {xs:List Value} {S:Nat→Prop} {w w':World} (h:w.ownsRow base e size v n xs) (hk:Keep S w w') (hd:∀ k,v.ownBlock=some k→¬ S k):w'.ownsRow base e size v n xs:=by
 refine ⟨h.1,?_⟩
 rcases h.2 with h2 | ⟨g,cap,cur,rfl,hg,hh,r⟩
 ·exact .inl h2
 ·exact .inr ⟨g,cap,cur,rfl,hg,(hk.block g (gE hh).1 (hd g (by simp [Value.ownBlock]))).trans hh,r⟩
theorem zCI {base e size n:Nat} {v:Value} {xs:List Value} {w:World} (h:w.ownsRow base e size v n xs):w.ownsRow 0 e size v n xs:=by
 refine ⟨h.1,?_⟩
 rcases h.2 with h2 | ⟨g,cap,cur,rfl,hg,r⟩
 ·exact .inl h2
 ·exact .inr ⟨g,cap,cur,rfl,Nat.zero_le _,r⟩
theorem cell0 {w:World} {g T:Nat} {v:Value} (h:w.heap[g]? = some (.cells #[v] T (0,0))):w.cell? ⟨g,0,none⟩=some v:=by
 rw [cell_of_row w g 0 _ _ _ h]
 rfl
theorem zM {w:World} {g T:Nat} {cs:Array Value} (o:Nat) (h:w.heap[g]? = some (.cells cs T (0,0))):w.frozen? ⟨g,o,none⟩=false:=by
 simp [World.frozen?,h]
theorem Foot.of_own {base e size n:Nat} {v:Value} {xs:List Value} {w:World} (h:w.ownsRow base e size v n xs):Foot (SliceR size v n xs) w (fun k=>v.ownBlock=some k):=by
 refine ⟨fun k hk=>(h.lt k hk).2,fun W' hW=>SliceR.of_own (base:=base) (e:=e) ?_⟩
 refine ⟨h.1,?_⟩
 rcases h.2 with h2 | ⟨g,cap,cur,rfl,hg,hh,r⟩
 ·exact .inl h2
 ·exact .inr ⟨g,cap,cur,rfl,hg,(hW g (by simp [Value.ownBlock])).trans hh,r⟩
theorem zOD {w:World} {g T:Nat} {v:Value} (u:Value) (h:w.heap[g]? = some (.cells #[v] T (0,0))):(w.setCell ⟨g,0,none⟩ u).heap[g]? = some (.cells #[u] T (0,0)):=by
 simp only [World.setCell,Array.getElem?_modify]
 simp [h]
theorem zo {base e size n:Nat} {v v':Value} {xs:List Value} {w w':World} {p:Prop} (h:Apped base e size v v' n xs w w' p):∀ k,v'.ownBlock=some k→v.ownBlock=some k∨k=w.heap.size:=fun k hk=>by
 rcases h.at_ with h | h
 ·exact .inl (h ▸ hk)
 ·rw [h] at hk
  exact .inr (Option.some.inj hk).symm
end Go.Proofs.YtfkcpaahdlkcdaaGreat
namespace Go.Proofs.YtfkcpaahdlkcdaaGreat
open Go.RowKit
theorem zy:(Tryz.prog.info? 5).map (fun i=>(i.zero,i.size,i.bytes))=some (some (.int .u8 0),1,1):=by kernel_rfl
theorem zW:Tryz.prog.underlying 23=some (.slice 5):=by kernel_rfl
abbrev u8s (l:List Int):List Value:=l.map (Value.int .u8)
theorem zHB (l:List Int):∀ u∈u8s l,u.oneCell'=true:=by
 intro u hu
 obtain ⟨x,_,rfl⟩:=List.mem_map.1 hu
 rfl
theorem ziB (v:Value) (l:List Int) (w:World) (h:SliceR 1 v l.length (u8s l) w) (hl:l.length≤140737488355328) :
    Calls Tryz.prog 167 #[v] w fun e w'=>∃ A c,e=.returned (.slice A l.length c)∧w'.ownsRow w.heap.size 5 1 (.slice A l.length c) l.length (u8s l)∧Grow w w':=by
 have Hs:=LH ((h.grow ((Keep.refl _ _).alloc (.cells #[] 5))).src zW (zHB l))
 have HL:=LH hl
 clear hl
 have hq:=zKE zW
 obtain ⟨A,c,rfl,hlc,_,hA,_⟩:=h
 cases A with
 | none =>
  have h0:l=[]:=List.eq_nil_of_length_eq_zero (by have:=hA rfl;omega)
  subst h0
  go_enter Tryz.func167,Tryz.ntmps167
  go_wp2
  go_ret
  exact ⟨none,0,rfl,World.ownsRow_nil _ _ _ _,Keep.refl _ _⟩
 | some ad =>
  go_enter Tryz.func167,Tryz.ntmps167
  go_wp2_with (at_builtin;refine zL _ rfl _ _ 23 23 rfl w.heap.size 5 (.int .u8 0) 1 1 zW zy rfl (.slice (some ⟨w.heap.size,0,none⟩) 0 0) 0 [] rfl (.slice (some ad) l.length c) l.length (u8s l) rfl ?_ ?c0 ?c1 ?c2 ?c3 ?c4;intro v' w' hap)
  case c0=>exact World.ownsRow_made w #[] 0 (Nat.le_refl _) (by simp [maxLen]) rfl
  case c1=>exact Hs.out
  case c2=>have:=HL.out;simp only [maxLen];omega
  case c3=>have:=HL.out;omega
  case c4=>simp
  have ho:=hap.own
  simp only [Nat.zero_add,List.nil_append] at ho
  have hg:=((Keep.refl NoB w).alloc (.cells #[] 5)).grown hap.grew (by simp [Value.ownBlock])
  clear hap
  obtain ⟨A,c2,rfl,_⟩:=zJ ho
  go_wp2
  go_ret
  exact ⟨_,_,rfl,ho,hg⟩
theorem zMA {base e size n:Nat} {v:Value} {xs:List Value} {w:World} (h:w.ownsRow base e size v n xs) (h0:0<n):∃ r c,v=.slice (some ⟨r,0,none⟩) n c∧v.ownBlock=some r∧n≤c∧∀ j u,xs[j]? = some u→w.cell? ⟨r,0+j,none⟩=some u:=by
 rcases h.2 with ⟨rfl,rfl⟩ | ⟨g,cap,cur,rfl,hg,hh,hn,r⟩
 ·omega
 ·refine ⟨g,cap,rfl,rfl,hn,fun j u hj=>?_⟩
  have:=h.cells (g:=g) rfl j u hj
  rwa [show (⟨g,0,none⟩:Addr).add j=⟨g,0+j,none⟩ from Addr.add_lit ..] at this
end Go.Proofs.YtfkcpaahdlkcdaaGreat
namespace Go.Proofs.YtfkcpaahdlkcdaaGreat
open Go.RowKit
section
variable {P:Program} {ops:Array Oper} {Q:Exit→Act→World→Prop} {md:Region.Mode} {ds:List Nat}
def reachB (md:Region.Mode) (ops:Array Oper) (i:Nat):Nat→Nat→Bool
 | 0,_=>false
 | fuel+1,d=>match ops[d]? with
  | some o=>o.after.any fun e=>Region.binds md e&&(e.on==i||reachB md ops i fuel e.on)
  | none=>false
def closedB (md:Region.Mode) (ops:Array Oper) (listed:Array Bool):Bool :=
 (List.range ops.size).all fun j => !listed.getD j false||match ops[j]? with
  | some o=>o.after.all fun e => !Region.binds md e||listed.getD e.on false
  | none=>true
def ListedClosed (md:Region.Mode) (ops:Array Oper) (listed:Array Bool):Prop :=
 ∀ j oj,ops[j]? = some oj→listed.getD j false=true→∀ e∈oj.after,Region.binds md e=true→listed.getD e.on false=true
theorem zHF {listed:Array Bool} (h:closedB md ops listed=true):ListedClosed md ops listed:=by
 intro j oj hj hl e he hb
 have hlt:j<ops.size:=(gE hj).1
 have h1:=List.all_eq_true.1 h j (List.mem_range.2 hlt)
 simp only [hl,hj,Bool.not_true,Bool.false_or] at h1
 have h2:=Array.all_eq_true_iff_forall_mem.1 h1 e he
 simpa [hb] using h2
theorem ListedClosed.set {listed:Array Bool} {i:Nat} (h:ListedClosed md ops listed) (hi:i∈Region.ready md ops listed):ListedClosed md ops (listed.setIfInBounds i true):=by
 obtain ⟨_,oi,hoi,hall⟩:=mem_ready.1 hi
 intro j oj hj hl e he hb
 by_cases hij:i=j
 ·subst hij
  have:oj=oi:=Option.some.inj (hj.symm.trans hoi)
  subst this
  exact getD_set_true (hall e he hb)
 ·rw [getD_set_ne false hij] at hl
  exact getD_set_true (h j oj hj hl e he hb)
theorem zdC {listed:Array Bool} {i:Nat} (hc:ListedClosed md ops listed):∀ (fuel d:Nat),reachB md ops i fuel d=true→listed.getD d false=true→listed.getD i false=true
 | 0,_,h,_=>by simp [reachB] at h
 | fuel + 1, d, h, hl => by
  unfold reachB at h
  cases ho:ops[d]? with
  | none=>rw [ho] at h;simp at h
  | some o =>
   rw [ho] at h
   obtain ⟨e,he,h1⟩:=Array.any_eq_true'.1 h
   simp only [Bool.and_eq_true,Bool.or_eq_true,beq_iff_eq] at h1
   have hle:=hc d o ho hl e he h1.1
   rcases h1.2 with h2 | h2
   ·rw [← h2];exact hle
   ·exact zdC hc fuel e.on h2 hle
theorem zmD {listed:Array Bool} {i d fuel:Nat} (hc:ListedClosed md ops listed) (hr:reachB md ops i fuel d=true) (hun:listed.getD i true=false):d∉Region.ready md ops listed:=by
 intro hd
 obtain ⟨_,o,ho,hall⟩:=mem_ready.1 hd
 have hi:listed.getD i false=true:=by
  cases fuel with
  | zero=>simp [reachB] at hr
  | succ n =>
   unfold reachB at hr
   rw [ho] at hr
   obtain ⟨e,he,h1⟩:=Array.any_eq_true'.1 hr
   simp only [Bool.and_eq_true,Bool.or_eq_true,beq_iff_eq] at h1
   have hle:=hall e he h1.1
   rcases h1.2 with h2 | h2
   ·rw [← h2];exact hle
   ·exact zdC hc n e.on h2 hle
 rcases Nat.lt_or_ge i listed.size with h' | h'
 ·simp [h'] at hun hi
  rw [hun] at hi
  cases hi
 ·simp [Array.getElem?_eq_none h'] at hun
def wpAnyG (S:Nat→Prop) (P:Program) (md:Region.Mode) (ops:Array Oper) (Q:Exit→Act→World→Prop) (ds:List Nat):Nat→Array Bool→Act→World→Prop
 | 0,listed,a,w=>Region.ready md ops listed=[]∧Q .normal a w
 | fuel+1,listed,a,w =>
  (Region.ready md ops listed=[]→Q .normal a w) ∧
  ∀ i∈Region.ready md ops listed,wpOp P ops Q i (fun a' w'=>(i∉ds→Keep S w w')∧wpAnyG S P md ops Q ds fuel (listed.setIfInBounds i true) a' w') a w
variable {S:Nat→Prop}
theorem zIC:∀ (fuel:Nat) (listed:Array Bool) (a:Act) (w:World),wpAnyG S P md ops Q ds fuel listed a w→wpAny P md ops Q fuel listed a w
 | 0,_,_,_,h=>h
 | fuel+1,_,_,_,h=>⟨h.1,fun i hi=>wpOp_mono (fun a' w' h'=>zIC fuel _ a' w' h'.2) (h.2 i hi)⟩
theorem zIF {i:Nat} {oi:Oper} {v:Value} (hi:ops[i]? = some oi) (hsel:∀ (j:Nat) (o:Oper) cs b,ops[j]? = some o→o.op≠.select cs b)
    (hQ:∀ c a w,Q (.panic c) (a.put oi.dst v) w→Q (.panic c) a w) (n:Nat) :
    ∀ (fuel:Nat) (listed:Array Bool) (a:Act) (w:World),
     (∀ j oj,ops[j]? = some oj→j≠i→listed.getD j true=false→(∀ e∈oj.after,Region.binds md e=true→e.on≠i)→oi.apart ops oj=true) →
     ListedClosed md ops listed→(∀ d∈ds,listed.getD d true=false→reachB md ops i n d=true) →
     i∈Region.ready md ops listed→YieldsIf P ops (Keep S w) oi v a →
     wpAnyG S P md ops Q ds fuel (listed.setIfInBounds i true) (a.put oi.dst v) w→wpAnyG S P md ops Q ds (fuel+1) listed a w:=by
 intro fuel
 induction fuel with
 | zero =>
  intro listed a w _ _ _ hr hy H
  refine ⟨fun h=>(by rw [h] at hr;cases hr),fun j hj=>?_⟩
  by_cases hji:j=i
  ·subst hji;exact hy.wpOp hi (Keep.refl _ _) ⟨fun _=>Keep.refl _ _,H⟩
  ·have:=ready_mono hj hji
   rw [H.1] at this
   cases this
 | succ fuel ih =>
  intro listed a w hfree hc hd hr hy H
  refine ⟨fun h=>(by rw [h] at hr;cases hr),fun j hj=>?_⟩
  by_cases hji:j=i
  ·subst hji;exact hy.wpOp hi (Keep.refl _ _) ⟨fun _=>Keep.refl _ _,H⟩
  ·have h1:=H.2 j (ready_mono hj hji)
   obtain ⟨hjun,oj,hoj,hall⟩:=mem_ready.1 hj
   have hiun:=(mem_ready.1 hr).1
   have hnot:∀ e∈oj.after,Region.binds md e=true→e.on≠i:=fun e he hb heq=>by
    have h1:=hall e he hb
    rw [heq] at h1
    rcases Nat.lt_or_ge i listed.size with h' | h'
    ·simp [h'] at hiun h1;rw [hiun] at h1;cases h1
    ·simp [Array.getElem?_eq_none h'] at h1
   have hjd:j∉ds:=fun hm=>zmD hc (hd j hm hjun) hiun hj
   have h2:=wpOp_putIf hoj (hfree j oj hoj hji hjun hnot) (fun cs b=>hsel i oi cs b hi) (fun cs b=>hsel j oj cs b hoj) hQ hy h1
   have hfree':∀ k ok,ops[k]? = some ok→k≠i→(listed.setIfInBounds j true).getD k true=false →
       (∀ e∈ok.after,Region.binds md e=true→e.on≠i)→oi.apart ops ok=true:=fun k ok hk hki hun hno=>by
    refine hfree k ok hk hki ?_ hno
    by_cases hjk:j=k
    ·subst hjk;exact hjun
    ·rw [getD_set_ne true hjk] at hun;exact hun
   have hd':∀ d∈ds,(listed.setIfInBounds j true).getD d true=false→reachB md ops i n d=true:=fun d hm hun=>by
    refine hd d hm ?_
    by_cases hjk:j=d
    ·subst hjk;exact hjun
    ·rw [getD_set_ne true hjk] at hun;exact hun
   refine wpOp_mono (fun a' w' h3=>⟨h3.2.1,ih (listed.setIfInBounds j true) a' w' hfree' (hc.set hj) hd' (ready_mono hr (Ne.symm hji)) ?_ ?_⟩) h2
   ·exact h3.1.imp (fun hx=>⟨hx.1,fun w2 hw2=>hx.2 w2 ((h3.2.1 hjd).trans hw2 (fun _ h=>.inl h))⟩) id
   ·rw [Array.setIfInBounds_comm _ _ hji]
    exact h3.2.2
theorem zOG {i:Nat} {oi:Oper} {v:Value} (hi:ops[i]? = some oi) (hsel:∀ (j:Nat) (o:Oper) cs b,ops[j]? = some o→o.op≠.select cs b)
    (hQ:∀ c a w,Q (.panic c) (a.put oi.dst v) w→Q (.panic c) a w):
    ∀ (fuel:Nat) (listed:Array Bool) (a:Act) (w:World),
     (∀ j oj,ops[j]? = some oj→j≠i→listed.getD j true=false→(∀ e∈oj.after,Region.binds md e=true→e.on≠i)→oi.apart ops oj=true) →
     i∈Region.ready md ops listed→YieldsIf P ops (fun _=>True) oi v a →
     wpAnyG S P md ops Q ds fuel (listed.setIfInBounds i true) (a.put oi.dst v) w→wpAnyG S P md ops Q ds (fuel+1) listed a w:=by
 intro fuel
 induction fuel with
 | zero =>
  intro listed a w _ hr hy H
  refine ⟨fun h=>(by rw [h] at hr;cases hr),fun j hj=>?_⟩
  by_cases hji:j=i
  ·subst hji;exact hy.wpOp hi trivial ⟨fun _=>Keep.refl _ _,H⟩
  ·have:=ready_mono hj hji
   rw [H.1] at this
   cases this
 | succ fuel ih =>
  intro listed a w hfree hr hy H
  refine ⟨fun h=>(by rw [h] at hr;cases hr),fun j hj=>?_⟩
  by_cases hji:j=i
  ·subst hji;exact hy.wpOp hi trivial ⟨fun _=>Keep.refl _ _,H⟩
  ·have h1:=H.2 j (ready_mono hj hji)
   obtain ⟨hjun,oj,hoj,hall⟩:=mem_ready.1 hj
   have hiun:=(mem_ready.1 hr).1
   have hnot:∀ e∈oj.after,Region.binds md e=true→e.on≠i:=fun e he hb heq=>by
    have h1:=hall e he hb
    rw [heq] at h1
    rcases Nat.lt_or_ge i listed.size with h' | h'
    ·simp [h'] at hiun h1;rw [hiun] at h1;cases h1
    ·simp [Array.getElem?_eq_none h'] at h1
   have h2:=wpOp_putIf hoj (hfree j oj hoj hji hjun hnot) (fun cs b=>hsel i oi cs b hi) (fun cs b=>hsel j oj cs b hoj) hQ hy h1
   have hfree':∀ k ok,ops[k]? = some ok→k≠i→(listed.setIfInBounds j true).getD k true=false →
       (∀ e∈ok.after,Region.binds md e=true→e.on≠i)→oi.apart ops ok=true:=fun k ok hk hki hun hno=>by
    refine hfree k ok hk hki ?_ hno
    by_cases hjk:j=k
    ·subst hjk;exact hjun
    ·rw [getD_set_ne true hjk] at hun;exact hun
   refine wpOp_mono (fun a' w' h3=>⟨h3.2.1,ih (listed.setIfInBounds j true) a' w' hfree' (ready_mono hr (Ne.symm hji)) h3.1 ?_⟩) h2
   rw [Array.setIfInBounds_comm _ _ hji]
   exact h3.2.2
def ordOkC (md:Region.Mode) (ops:Array Oper) (acts reads ds:List Nat) (fin:Array Bool→Bool):List Nat→Array Bool→Bool
 | [],l=>fin l
 | i :: rest, l => (Region.ready md ops l).contains i && (if acts.contains i then Region.ready md ops l == [i] else
     Region.free md ops l i&&(!reads.contains i||closedB md ops l&&ds.all (fun d=>l.getD d true||reachB md ops i ops.size d)))&&ordOkC md ops acts reads ds fin rest (l.setIfInBounds i true)
abbrev ordOk (md:Region.Mode) (ops:Array Oper) (acts reads ds ord:List Nat) (l:Array Bool):Bool:=ordOkC md ops acts reads ds (fun l=>(Region.ready md ops l).isEmpty) ord l
def wpOrdC (S:Nat→Prop) (P:Program) (ops:Array Oper) (Q:Exit→Act→World→Prop) (R:Act→World→Prop) (acts reads ds:List Nat):List Nat→Act→World→Prop
 | [],a,w=>R a w
 | i :: rest, a, w => match ops[i]? with
  | none=>False
  | some o=>if acts.contains i then wpOp P ops Q i (fun a' w'=>(i∉ds→Keep S w w')∧wpOrdC S P ops Q R acts reads ds rest a' w') a w
   else ∃ v,YieldsIf P ops (if reads.contains i then Keep S w else fun _=>True) o v a∧(∀ c a w,Q (.panic c) (a.put o.dst v) w→Q (.panic c) a w)∧wpOrdC S P ops Q R acts reads ds rest (a.put o.dst v) w
abbrev wpOrd (S:Nat→Prop) (P:Program) (ops:Array Oper) (Q:Exit→Act→World→Prop) (acts reads ds:List Nat):List Nat→Act→World→Prop:=wpOrdC S P ops Q (fun a w=>Q .normal a w) acts reads ds
theorem zOA {acts reads:List Nat} {R:Act→World→Prop} {fin:Array Bool→Bool} {n:Nat} (hs:Region.noSelect ops=true) (hfin:∀ l a w,fin l=true→R a w→wpAnyG S P md ops Q ds n l a w):∀ (ord:List Nat) (l:Array Bool) (a:Act) (w:World),ordOkC md ops acts reads ds fin ord l=true→wpOrdC S P ops Q R acts reads ds ord a w→wpAnyG S P md ops Q ds (n+ord.length) l a w
 | [],l,a,w,hc,h=>by
  exact hfin l a w hc h
 | i :: rest, l, a, w, hc, h => by
  simp only [ordOkC,Bool.and_eq_true] at hc
  obtain ⟨⟨h1,h2⟩,h3⟩:=hc
  have hr:i∈Region.ready md ops l:=by simpa using h1
  unfold wpOrdC at h
  cases ho:ops[i]? with
  | none=>rw [ho] at h;exact h.elim
  | some o =>
   rw [ho] at h
   cases ha:acts.contains i with
   | true =>
    simp only [ha,if_true] at h h2
    have hr1:Region.ready md ops l=[i]:=by simpa using h2
    refine ⟨fun h0=>(by rw [hr1] at h0;cases h0),fun j hj=>?_⟩
    rw [hr1] at hj
    have:j=i:=by simpa using hj
    subst this
    exact wpOp_mono (fun a' w' h'=>⟨h'.1,zOA hs hfin rest _ a' w' h3 h'.2⟩) h
   | false =>
    simp only [ha,Bool.false_eq_true,if_false] at h h2
    simp only [Bool.and_eq_true] at h2
    obtain ⟨hf,h2⟩:=h2
    obtain ⟨v,hy,hQ,hk⟩:=h
    cases hrd:reads.contains i with
    | false =>
     simp only [hrd,Bool.false_eq_true,if_false] at hy
     exact zOG ho (Region.noSelect_spec hs) hQ _ l a w (Region.free_spec ho hf) hr hy (zOA hs hfin rest _ _ w h3 hk)
    | true =>
     simp only [hrd,if_true,Bool.not_true,Bool.false_or,Bool.and_eq_true] at hy h2
     refine zIF ho (Region.noSelect_spec hs) hQ ops.size _ l a w (Region.free_spec ho hf) (zHF h2.1) (fun d hm hun=>?_) hr hy (zOA hs hfin rest _ _ w h3 hk)
     have:=List.all_eq_true.1 h2.2 d hm
     rw [hun] at this
     simpa using this
theorem zVC {acts reads:List Nat} (hs:Region.noSelect ops=true) (ord:List Nat) (l:Array Bool) (a:Act) (w:World) (hc:ordOk md ops acts reads ds ord l=true) (h:wpOrd S P ops Q acts reads ds ord a w):wpAnyG S P md ops Q ds ord.length l a w:=by
 have:=zOA (n:=0) hs (fun l a w hl hq=>(⟨List.isEmpty_iff.1 hl,hq⟩:wpAnyG S P md ops Q ds 0 l a w)) ord l a w hc h
 rwa [Nat.zero_add] at this
theorem zc {id:Nat} {a:Act} {w:World} (S:Nat→Prop) (ord acts reads ds:List Nat) (hm:P.follows .mixedOrders=true)
    (hc:(Region.noSelect ops&&ordOk .any ops acts reads ds ord (Array.replicate ops.size false)&&(ord.length==ops.size))=true)
    (h:wpOrd S P ops Q acts reads ds ord a w.drew):(Code.region id ops true).wp P Q a w:=by
 simp only [Bool.and_eq_true,beq_iff_eq] at hc
 have:=zVC hc.1.1 ord _ a w.drew hc.1.2 h
 rw [hc.2] at this
 exact wp_region_any hm (zIC _ _ _ _ this)
theorem zD {id:Nat} {a:Act} {w:World} (ord acts reads ds:List Nat) (hm:P.follows .mixedOrders=true)
    (hc:(Region.noSelect ops&&ordOk .any ops acts reads ds ord (Array.replicate ops.size false)&&(ord.length==ops.size))=true)
    (h:wpOrd NoB P ops Q acts reads ds ord a w.drew):(Code.region id ops true).wp P Q a w:=zc NoB ord acts reads ds hm hc h
theorem zJC {id:Nat} {a:Act} {w:World} (S:Nat→Prop) (ord acts reads ds:List Nat) (l:Array Bool) (n:Nat) (hm:P.follows .mixedOrders=true)
    (hc:(Region.noSelect ops&&ordOkC .any ops acts reads ds (fun k=>k==l) ord (Array.replicate ops.size false)&&(n+ord.length==ops.size))=true)
    (h:wpOrdC S P ops Q (wpAnyG S P .any ops Q ds n l) acts reads ds ord a w.drew):(Code.region id ops true).wp P Q a w:=by
 simp only [Bool.and_eq_true,beq_iff_eq] at hc
 have:=zOA (n:=n) hc.1.1 (fun k a w hl hq=>by rw [beq_iff_eq.1 hl];exact hq) ord _ a w.drew hc.1.2 h
 rw [hc.2] at this
 exact wp_region_any hm (zIC _ _ _ _ this)
theorem zRB {md:Region.Mode} {a:Act} {w:World} {n:Nat} {l:Array Bool} (i j:Nat) (l1 l2:Array Bool) (hr:(Region.ready md ops l==[i,j]&&l.setIfInBounds i true==l1&&l.setIfInBounds j true==l2)=true)
    (h1:wpOrdC S P ops Q (wpAnyG S P md ops Q ds n l1) [i] [] ds [i] a w) (h2:wpOrdC S P ops Q (wpAnyG S P md ops Q ds n l2) [j] [] ds [j] a w):wpAnyG S P md ops Q ds (n+1) l a w:=by
 simp only [Bool.and_eq_true,beq_iff_eq] at hr
 obtain ⟨⟨hr,e1⟩,e2⟩:=hr
 refine ⟨fun h=>(by rw [hr] at h;cases h),fun k hk=>?_⟩
 have step:∀ k l',wpOrdC S P ops Q (wpAnyG S P md ops Q ds n l') [k] [] ds [k] a w→wpOp P ops Q k (fun a' w'=>(k∉ds→Keep S w w')∧wpAnyG S P md ops Q ds n l' a' w') a w:=fun k l' h=>by
  unfold wpOrdC at h
  cases ho:ops[k]? with
  | none=>rw [ho] at h;exact h.elim
  | some o =>
   rw [ho] at h
   simpa only [List.contains_cons,beq_self_eq_true,Bool.true_or,if_true,wpOrdC] using h
 rw [hr] at hk
 rcases (by simpa using hk:k=i∨k=j) with rfl | rfl
 ·rw [e1];exact step _ _ h1
 ·rw [e2];exact step _ _ h2
theorem zqA {md:Region.Mode} {a:Act} {w:World} {n:Nat} {l:Array Bool} (ord acts reads:List Nat) (hc:(Region.noSelect ops&&ordOk md ops acts reads ds ord l&&(ord.length==n))=true)
    (h:wpOrd S P ops Q acts reads ds ord a w):wpAnyG S P md ops Q ds n l a w:=by
 simp only [Bool.and_eq_true,beq_iff_eq] at hc
 have:=zVC hc.1.1 ord _ a w hc.1.2 h
 rwa [hc.2] at this
section
variable {S:Nat→Prop} {R:Act→World→Prop} {acts reads:List Nat} {rest:List Nat} {i:Nat} {o:Oper} {a:Act} {w:World}
theorem zF (h:R a w):wpOrdC S P ops Q R acts reads ds [] a w:=h
theorem zOJ {N:Option Tmp} (hl:ops.toList[i]? = some o) (ha:acts.contains i=false) (hr:reads.contains i=false) (hN:o.dst=N) (hg:o.guard=none) (hQ:∀ v c a w,Q (.panic c) (a.put N v) w→Q (.panic c) a w) (v:Value) (a':Act)
    (hy:∀ w',(execOp a.eval o).run P w'=.ok (.value v) w') (ha':a.put N v=a') (h:wpOrdC S P ops Q R acts reads ds rest a' w):wpOrdC S P ops Q R acts reads ds (i :: rest) a w:=by
 have hi:ops[i]? = some o:=by simpa using hl
 subst ha'
 subst hN
 unfold wpOrdC
 rw [hi]
 simp only [ha,hr,Bool.false_eq_true,if_false,if_true]
 exact ⟨v,.inl ⟨by simp [Region.wanted,hg],fun w' _=>hy w'⟩,fun c a w=>hQ v c a w,h⟩
theorem zPJ {N:Option Tmp} (hl:ops.toList[i]? = some o) (ha:acts.contains i=false) (hr:reads.contains i=true) (hN:o.dst=N) (hg:o.guard=none) (hQ:∀ v c a w,Q (.panic c) (a.put N v) w→Q (.panic c) a w) (v:Value) (a':Act)
    (hy:∀ w',Keep S w w'→(execOp a.eval o).run P w'=.ok (.value v) w') (ha':a.put N v=a') (h:wpOrdC S P ops Q R acts reads ds rest a' w):wpOrdC S P ops Q R acts reads ds (i :: rest) a w:=by
 have hi:ops[i]? = some o:=by simpa using hl
 subst ha'
 subst hN
 unfold wpOrdC
 rw [hi]
 simp only [ha,hr,Bool.false_eq_true,if_false,if_true]
 exact ⟨v,.inl ⟨by simp [Region.wanted,hg],hy⟩,fun c a w=>hQ v c a w,h⟩
theorem zDI {N:Option Tmp} (hl:ops.toList[i]? = some o) (ha:acts.contains i=false) (hr:reads.contains i=false) (hN:o.dst=N) (hg:Region.wanted o (yielded ops a.tmps)=true) (hQ:∀ v c a w,Q (.panic c) (a.put N v) w→Q (.panic c) a w) (v:Value) (a':Act)
    (hy:∀ w',(execOp a.eval o).run P w'=.ok (.value v) w') (ha':a.put N v=a') (h:wpOrdC S P ops Q R acts reads ds rest a' w):wpOrdC S P ops Q R acts reads ds (i :: rest) a w:=by
 have hi:ops[i]? = some o:=by simpa using hl
 subst ha'
 subst hN
 unfold wpOrdC
 rw [hi]
 simp only [ha,hr,Bool.false_eq_true,if_false,if_true]
 exact ⟨v,.inl ⟨hg,fun w' _=>hy w'⟩,fun c a w=>hQ v c a w,h⟩
theorem zEI {N:Option Tmp} (hl:ops.toList[i]? = some o) (ha:acts.contains i=false) (hr:reads.contains i=true) (hN:o.dst=N) (hg:Region.wanted o (yielded ops a.tmps)=true) (hQ:∀ v c a w,Q (.panic c) (a.put N v) w→Q (.panic c) a w) (v:Value) (a':Act)
    (hy:∀ w',Keep S w w'→(execOp a.eval o).run P w'=.ok (.value v) w') (ha':a.put N v=a') (h:wpOrdC S P ops Q R acts reads ds rest a' w):wpOrdC S P ops Q R acts reads ds (i :: rest) a w:=by
 have hi:ops[i]? = some o:=by simpa using hl
 subst ha'
 subst hN
 unfold wpOrdC
 rw [hi]
 simp only [ha,hr,Bool.false_eq_true,if_false,if_true]
 exact ⟨v,.inl ⟨hg,hy⟩,fun c a w=>hQ v c a w,h⟩
theorem zGB {N:Option Tmp} (hl:ops.toList[i]? = some o) (ha:acts.contains i=false) (hN:o.dst=N) (hg:Region.wanted o (yielded ops a.tmps)=false) (hQ:∀ v c a w,Q (.panic c) (a.put N v) w→Q (.panic c) a w) (a':Act)
    (ha':a.put N undef=a') (h:wpOrdC S P ops Q R acts reads ds rest a' w):wpOrdC S P ops Q R acts reads ds (i :: rest) a w:=by
 have hi:ops[i]? = some o:=by simpa using hl
 subst ha'
 subst hN
 unfold wpOrdC
 rw [hi]
 simp only [ha,Bool.false_eq_true,if_false]
 exact ⟨undef,.inr ⟨hg,rfl⟩,fun c a w=>hQ undef c a w,h⟩
theorem zrA (hl:ops.toList[i]? = some o) (ha:acts.contains i=true)
    (h:∀ K:Act→World→Prop,(∀ a' w',((i∉ds→Keep S w w')∧wpOrdC S P ops Q R acts reads ds rest a' w')→K a' w')→if Region.wanted o (yielded ops a.tmps)=true then Oper.wp P o a w K Q else K (a.put o.dst undef) w) :
    wpOrdC S P ops Q R acts reads ds (i :: rest) a w:=by
 have hi:ops[i]? = some o:=by simpa using hl
 unfold wpOrdC
 rw [hi]
 simp only [ha,if_true]
 have:=h _ (fun _ _ h=>h)
 unfold wpOp
 simp only [hi]
 split
 ·rename_i hw;rw [if_pos hw] at this;exact .inl this
 ·rename_i hw;rw [if_neg hw] at this;exact this
theorem zFI {N:Option Tmp} (hl:ops.toList[i]? = some o) (ha:acts.contains i=true) (hN:o.dst=N) (hg:o.guard=none) (v:Value) (w':World) (a':Act)
    (hy:(execOp a.eval o).run P w=.ok (.value v) w') (hk:i∉ds→Keep S w w') (ha':a.put N v=a') (h:wpOrdC S P ops Q R acts reads ds rest a' w'):wpOrdC S P ops Q R acts reads ds (i :: rest) a w:=by
 refine zrA hl ha (fun K hK=>?_)
 rw [if_pos (by simp [Region.wanted,hg])]
 subst hN
 subst ha'
 unfold Oper.wp
 rw [hy,Oper.upon_value]
 exact hK _ _ ⟨hk,h⟩
theorem zaK {N:Option Tmp} (hl:ops.toList[i]? = some o) (ha:acts.contains i=true) (hN:o.dst=N) (hg:o.guard=none) (v:Value) (a':Act)
    (hy:(execOp a.eval o).run P w=.ok (.value v) w) (ha':a.put N v=a') (h:wpOrdC S P ops Q R acts reads ds rest a' w):wpOrdC S P ops Q R acts reads ds (i :: rest) a w :=
 zFI hl ha hN hg v w a' hy (fun _=>Keep.refl _ _) ha' h
theorem ord_p {N:Option Tmp} {v:Value} {a':Act} (h:wpOrdC S P ops Q R acts reads ds rest a' w) (hl:ops.toList[i]? = some o:=by exact rfl) (ha:acts.contains i=false:=by exact rfl) (hr:reads.contains i=false:=by exact rfl) (hN:o.dst=N:=by exact rfl) (hg:o.guard=none:=by exact rfl) (hQ:∀ v c a w,Q (.panic c) (a.put N v) w→Q (.panic c) a w:=by exact fun _ _ _ _ h=>h)
    (hy:∀ w',(execOp a.eval o).run P w'=.ok (.value v) w':=by intro w';go_simp;with_reducible rfl) (ha':a.put N v=a':=by simp only [Act.put,pB,pC,pD];rfl):wpOrdC S P ops Q R acts reads ds (i :: rest) a w :=
 zOJ hl ha hr hN hg hQ v a' hy ha' h
theorem zS {N:Option Tmp} {v:Value} {a':Act} (h:wpOrdC S P ops Q R acts reads ds rest a' w) (hl:ops.toList[i]? = some o:=by exact rfl) (ha:acts.contains i=false:=by exact rfl) (hr:reads.contains i=false:=by exact rfl) (hN:o.dst=N:=by exact rfl) (hg:Region.wanted o (yielded ops a.tmps)=true:=by exact rfl) (hQ:∀ v c a w,Q (.panic c) (a.put N v) w→Q (.panic c) a w:=by exact fun _ _ _ _ h=>h)
    (hy:∀ w',(execOp a.eval o).run P w'=.ok (.value v) w':=by intro w';go_simp;with_reducible rfl) (ha':a.put N v=a':=by simp only [Act.put,pB,pC,pD];rfl):wpOrdC S P ops Q R acts reads ds (i :: rest) a w :=
 zDI hl ha hr hN hg hQ v a' hy ha' h
theorem ord_r {N:Option Tmp} {v:Value} {a':Act} (hl:ops.toList[i]? = some o:=by exact rfl) (ha:acts.contains i=false:=by exact rfl) (hr:reads.contains i=true:=by exact rfl) (hN:o.dst=N:=by exact rfl) (hg:o.guard=none:=by exact rfl) (hQ:∀ v c a w,Q (.panic c) (a.put N v) w→Q (.panic c) a w:=by exact fun _ _ _ _ h=>h)
    (y:∀ w',Keep S w w'→(execOp a.eval o).run P w'=.ok (.value v) w') (z:wpOrdC S P ops Q R acts reads ds rest a' w) (ha':a.put N v=a':=by simp only [Act.put,pB,pC,pD];rfl):wpOrdC S P ops Q R acts reads ds (i :: rest) a w :=
 zPJ hl ha hr hN hg hQ v a' y ha' z
theorem zY {N:Option Tmp} {v:Value} {a':Act} (hl:ops.toList[i]? = some o:=by exact rfl) (ha:acts.contains i=false:=by exact rfl) (hr:reads.contains i=true:=by exact rfl) (hN:o.dst=N:=by exact rfl) (hg:Region.wanted o (yielded ops a.tmps)=true:=by exact rfl) (hQ:∀ v c a w,Q (.panic c) (a.put N v) w→Q (.panic c) a w:=by exact fun _ _ _ _ h=>h)
    (y:∀ w',Keep S w w'→(execOp a.eval o).run P w'=.ok (.value v) w') (z:wpOrdC S P ops Q R acts reads ds rest a' w) (ha':a.put N v=a':=by simp only [Act.put,pB,pC,pD];rfl):wpOrdC S P ops Q R acts reads ds (i :: rest) a w :=
 zEI hl ha hr hN hg hQ v a' y ha' z
theorem ord_s {N:Option Tmp} {v:Value} {a':Act} (h:wpOrdC S P ops Q R acts reads ds rest a' w) (hl:ops.toList[i]? = some o:=by exact rfl) (ha:acts.contains i=true:=by exact rfl) (hN:o.dst=N:=by exact rfl) (hg:o.guard=none:=by exact rfl)
    (hy:(execOp a.eval o).run P w=.ok (.value v) w:=by go_simp;with_reducible rfl) (ha':a.put N v=a':=by simp only [Act.put,pB,pC,pD];rfl):wpOrdC S P ops Q R acts reads ds (i :: rest) a w :=
 zaK hl ha hN hg v a' hy ha' h
theorem zl {N:Option Tmp} (hl:ops.toList[i]? = some o) (ha:acts.contains i=true) (hN:o.dst=N) (hg:o.guard=none) (v:Value) (ob:Obj) (a':Act)
    (hy:(execOp a.eval o).run P w=.ok (.value v) (w.alloc ob)) (ha':a.put N v=a') (h:wpOrdC S P ops Q R acts reads ds rest a' (w.alloc ob)):wpOrdC S P ops Q R acts reads ds (i :: rest) a w :=
 zFI hl ha hN hg v _ a' hy (fun _=>(Keep.refl _ _).alloc _) ha' h
theorem zK (hl:ops.toList[i]? = some o) (ha:acts.contains i=true) (hN:o.dst=none) (hg:o.guard=none) (w':World)
    (hy:(execOp a.eval o).run P w=.ok .skip w') (hk:i∉ds→Keep S w w') (h:wpOrdC S P ops Q R acts reads ds rest a w'):wpOrdC S P ops Q R acts reads ds (i :: rest) a w:=by
 refine zrA hl ha (fun K hK=>?_)
 rw [if_pos (by simp [Region.wanted,hg])]
 unfold Oper.wp
 rw [hy,Oper.upon_skip,hN]
 exact hK _ _ ⟨hk,h⟩
theorem zG {N:Option Tmp} {f:FuncId} {fn:Func} {xs:Array Operand} {ts:Array TypeId} (hl:ops.toList[i]? = some o) (ha:acts.contains i=true) (hN:o.dst=N) (hg:o.guard=none)
    (hop : o.op = .call { callee := .value (.func f), args := xs, argTypes := ts }) (hf : P.funcs[f]? = some fn) (hname : (fn.name == "runtime.NumGoroutine") = false) (hb : fn.body.isSome = true) (args : List Value) (hargs : xs.toList.map a.eval = args)
    (h:Calls P f args.toArray w fun e w'=>∃ v,e=.returned v∧(i∉ds→Keep S w w')∧wpOrdC S P ops Q R acts reads ds rest (a.put N v) w'):wpOrdC S P ops Q R acts reads ds (i :: rest) a w:=by
 refine zrA hl ha (fun K hK=>?_)
 rw [if_pos (by simp [Region.wanted,hg])]
 subst hN
 unfold Oper.wp
 have h1 : fn.name ≠ "runtime.NumGoroutine" := by simpa using hname
 obtain ⟨c,hc⟩:=Option.isSome_iff_exists.1 hb
 have hcall:(callFunc f args.toArray).run P w=.ok (.enter f args.toArray) w:=by simp [callFunc,hf,h1,hc]
 have he:(execOp a.eval o).run P w=.ok (.enter f args.toArray) w:=by
  unfold execOp
  have hx:xs.map a.eval=args.toArray:=by rw [← hargs];apply Array.ext';simp
  rw [hop]
  simp [resolve,Deferred.ofValue,invoke,Act.eval,hx,hcall]
 rw [he,Oper.upon_enter]
 refine h.mono fun e w'' hh=>?_
 obtain ⟨v,rfl,h1,h2⟩:=hh
 exact hK _ _ ⟨h1,h2⟩
end
end
end Go.Proofs.YtfkcpaahdlkcdaaGreat
namespace Go.Proofs.YtfkcpaahdlkcdaaGreat
open Go.RowKit
def ints (l:List Int):List Value:=l.map (Value.int .i64)
def u64s (l:List Int):List Value:=l.map (Value.int .u64)
theorem zZD (l:List Int):∀ u∈ints l,u.oneCell'=true:=by
 intro u hu
 obtain ⟨x,_,rfl⟩:=List.mem_map.1 hu
 rfl
theorem zlA (l:List Int):∀ u∈u64s l,u.oneCell'=true:=by
 intro u hu
 obtain ⟨x,_,rfl⟩:=List.mem_map.1 hu
 rfl
theorem zjB:(Tryz.prog.info? 3).map (fun i=>(i.zero,i.size,i.bytes))=some (some (.int .i64 0),1,8):=by kernel_rfl
theorem zAB:Tryz.prog.underlying 37=some (.slice 3):=by kernel_rfl
theorem ze:(Tryz.prog.info? 22).map (fun i=>(i.zero,i.size,i.bytes))=some (some (.int .u64 0),1,8):=by kernel_rfl
theorem zBA:Tryz.prog.underlying 111=some (.slice 22):=by kernel_rfl
theorem SliceR.cut {size:Nat} {v:Value} {n:Nat} {vs:List Value} {w:World} (h:SliceR size v n vs w):∃ A c,v=.slice A n c:=by
 obtain ⟨A,c,h1,_⟩:=h
 exact ⟨A,c,h1⟩
theorem SliceR.at1 {A:Option Addr} {n c:Nat} {vs:List Value} {w:World} (h:SliceR 1 (.slice A n c) n vs w) (i:Nat) (hi:i<vs.length):∃ ad,A=some ad∧w.cell? (ad.add i)=some vs[i]:=by
 obtain ⟨A',c',e,h1,h2,h3,h4⟩:=h
 injection e with e1 e2 e3
 subst e1
 exact h4 i _ (List.getElem?_eq_getElem hi)
theorem SliceR.int_at {A:Option Addr} {c:Nat} {k:IntKind} {l:List Int} {w:World} (h:SliceR 1 (.slice A l.length c) l.length (l.map (Value.int k)) w) (i:Nat) (hi:i<l.length):∃ ad,A=some ad∧w.cell? (ad.add i)=some (.int k l[i]):=by
 obtain ⟨ad,e,hc⟩:=SliceR.at1 h i (by simpa using hi)
 exact ⟨ad,e,by simpa using hc⟩
def RowsR (k:IntKind) (a:List (List Int)) (v:Value) (w:World):Prop :=
 ∃ A c,v=.slice A a.length c∧∀ i (h:i<a.length),∃ ad A' c',A=some ad∧w.cell? (ad.add i)=some (.slice A' a[i].length c')∧SliceR 1 (.slice A' a[i].length c') a[i].length (a[i].map (Value.int k)) w
theorem RowsR.grow {k:IntKind} {a:List (List Int)} {v:Value} {w w':World} (h:RowsR k a v w) (hg:Grow w w'):RowsR k a v w':=by
 obtain ⟨A,c,e,hr⟩:=h
 refine ⟨A,c,e,fun i hi=>?_⟩
 obtain ⟨ad,A',c',h1,h2,h3⟩:=hr i hi
 exact ⟨ad,A',c',h1,hg.cell h2 (fun h=>h),h3.grow hg⟩
theorem RowsR.at_ {k:IntKind} {a:List (List Int)} {A:Option Addr} {c:Nat} {w:World} (h:RowsR k a (.slice A a.length c) w) (i:Nat) (hi:i<a.length):∃ ad A' c',A=some ad∧w.cell? (ad.add i)=some (.slice A' a[i].length c')∧SliceR 1 (.slice A' a[i].length c') a[i].length (a[i].map (Value.int k)) w:=by
 obtain ⟨A1,c1,e,hr⟩:=h
 injection e with e1 e2 e3
 subst e1
 exact hr i hi
theorem RowsR.slice {k:IntKind} {a:List (List Int)} {v:Value} {w:World} (h:RowsR k a v w):∃ A c,v=.slice A a.length c:=by
 obtain ⟨A,c,e,_⟩:=h
 exact ⟨A,c,e⟩
theorem zxG (a b m:Int) (w:World) (h0:0≤a) (h1:0≤b) (h2:a≤m) (h3:b≤m-a) (hm:m≤9223372036854775807):Calls Tryz.prog 246 #[.int .i64 a,.int .i64 b,.int .i64 m] w fun e w'=>e=.returned (.tuple #[.int .i64 (a+b),.bool true])∧w=w':=by
 have hw:IntKind.i64.wrap (m-a)=m-a:=IntWalk.i64_in _ (by omega)
 have hs:IntKind.i64.wrap (a+b)=a+b:=IntWalk.i64_in _ (by omega)
 go_enter Tryz.func246,Tryz.ntmps246
 rcases Int.lt_trichotomy a b with hl | rfl | hl
 all_goals
  go_wp2
  go_ret2
  exact ⟨by simp,rfl⟩
theorem zGI (a b m:Int) (w:World) (h:a<0∨b<0∨m<a∨m-a<b) (ha : -9223372036854775808≤a) (hm0:0≤m) (hm:m≤9223372036854775807):Calls Tryz.prog 246 #[.int .i64 a,.int .i64 b,.int .i64 m] w fun e w'=>e=.returned (.tuple #[.int .i64 0,.bool false])∧w=w':=by
 by_cases h0:a<0
 ·clear h
  go_enter Tryz.func246,Tryz.ntmps246
  rcases Int.lt_trichotomy a b with hl | rfl | hl
  all_goals
   go_wp2
   go_ret2
   exact ⟨rfl,rfl⟩
 by_cases h1:b<0
 ·clear h
  go_enter Tryz.func246,Tryz.ntmps246
  have hl:b<a:=by omega
  go_wp2
  go_ret2
  exact ⟨rfl,rfl⟩
 by_cases h2:m<a
 ·clear h
  go_enter Tryz.func246,Tryz.ntmps246
  rcases Int.lt_trichotomy a b with hl | rfl | hl
  all_goals
   go_wp2
   go_ret2
   exact ⟨rfl,rfl⟩
 ·have h3:m-a<b:=by omega
  have hw:IntKind.i64.wrap (m-a)=m-a:=IntWalk.i64_in _ (by omega)
  clear h
  go_enter Tryz.func246,Tryz.ntmps246
  rcases Int.lt_trichotomy a b with hl | rfl | hl
  all_goals
   go_wp2
   go_ret2
   exact ⟨rfl,rfl⟩
theorem znD (n d:Int) (w:World) (h0:0≤n) (h1:n≤9007199254740992) (h2:1≤d) (h3:d≤9007199254740992):Calls Tryz.prog 140 #[.int .i64 n,.int .i64 d] w fun e w'=>e=.returned (.int .i64 ((n+d-1)/d))∧w=w':=by
 go_enter Tryz.func140,Tryz.ntmps140
 go_wp2
 go_ret
 trace_state
 exact ⟨rfl,rfl⟩
structure OkA (a:List (List Int)):Prop where
 segs:a.length≤100000
 words:∀ s∈a,s.length≤100000
 nums:∀ s∈a,∀ x∈s,0≤x∧x≤18446744073709551615
def szs (a:List (List Int)):List Int:=a.map (fun s=>(s.length:Int))
theorem zi (a:List (List Int)):(szs a).length=a.length:=by simp [szs]
theorem zuB (a:List (List Int)) (v:Value) (w:World) (h:RowsR .u64 a v w) (ha:a.length≤100000) :
    Calls Tryz.prog 136 #[v] w fun e w'=>∃ A c,e=.returned (.slice A (szs a).length c)∧Grow w w'∧w'.ownsRow w.heap.size 3 1 (.slice A (szs a).length c) (szs a).length (ints (szs a)):=by
 obtain ⟨A,n,rfl⟩:=h.slice
 have H:=LH h
 clear h
 go_enter Tryz.func136,Tryz.ntmps136
 go_wp2
 go_loopw [3,8] (fun vo v wr=>∃ k:Nat,k≤a.length∧v=.int .i64 k∧∃ A4 c4,vo=.slice A4 k c4∧Hid (Grow w wr∧wr.ownsRow w.heap.size 3 1 (.slice A4 k c4) k (ints ((szs a).take k)))) (fun _ v _=>a.length-(intOf v).toNat)
 case atStart=>exact ⟨0,by omega,rfl,none,0,rfl,Keep.refl _ _,by simpa [ints] using World.ownsRow_nil w w.heap.size 3 1⟩
 case round =>
  obtain ⟨k,hk,rfl,A4,c4,rfl,HS⟩:=hrel
  by_cases hlt:k<a.length
  ·obtain ⟨ad,A',c',rfl,h2,_⟩:=(H.out.grow HS.out.1).at_ k hlt
   have hw:IntKind.i64.wrap ((k:Int)+1)=(k:Int)+1:=IntWalk.i64_in _ (by omega)
   have hlt':(k:Int)<a.length:=by omega
   have e1:ints ((szs a).take (k+1))=ints ((szs a).take k)++[.int .i64 a[k].length]:=by
    rw [List.take_succ_eq_append_getElem (by simpa [szs] using hlt)]
    simp [ints,szs]
   have E1:=LH e1
   clear e1
   go_wp2_with (at_builtin;refine zL _ rfl _ _ 37 37 rfl w.heap.size 3 (.int .i64 0) 1 8 zAB zjB rfl (.slice A4 k c4) k (ints ((szs a).take k)) rfl (.slice (some ⟨wr.heap.size,0,none⟩) 1 1) 1 [.int .i64 a[k].length] rfl ?_ (by exact zE HS.out.2 ((Keep.refl NoB wr).alloc _) (fun _ _ h=>h)) (by exact Src.ofSlice _ zAB ⟨wr.heap.size,0,none⟩ 1 1 _ rfl (World.news_of_block (cs:=#[.int .i64 a[k].length]) (t:=3) (fr:=(0,0)) (heap_alloc_new wr _)) (by simp [Value.oneCell'])) (by simp only [maxLen];omega) (by omega) (by have:=HS.out.1.size;simp;omega);intro v2 w2 hap;refine Hid.out ?_)
   refine LH ?_
   have Hg2:Hid (Grow w w2):=((((HS.out.1.mono (T:=fun k=>w.heap.size≤k) (fun _ h=>h.elim)).alloc _).grown hap.grew (fun k hk=>.inl (HS.out.2.lt k hk).1))).new (fun _ h=>h)
   have Ho2:=LH hap.own
   obtain ⟨A6,c6,rfl,_⟩:=zJ hap.own
   clear hap
   rw [← E1.out] at Ho2
   go_wp2
   go_roundw
   case rel=>exact ⟨k+1,by omega,by go_num,A6,c6,rfl,Hg2.out,Ho2.out⟩
   case measure=>simp [intOf];omega
  ·obtain rfl:k=a.length:=by omega
   have hlt':¬ ((a.length:Int)<a.length):=by omega
   go_wp2
   go_ret
   have ho:=HS.out.2
   rw [← zi a,List.take_length] at ho
   exact ⟨A4,c4,by rw [zi];rfl,HS.out.1,ho⟩
def fitsB (l:List Int):Bool:=decide (1≤l.length∧l.length≤16∧1≤l.headD 0∧(∀ x∈l,0≤x)∧l.sum≤4096)
theorem zx {l:List Int} (h:∀ x∈l,0≤x) (k:Nat):(l.take k).sum≤l.sum:=by
 induction l generalizing k with
 | nil=>simp
 | cons x r ih =>
  cases k with
  | zero =>
   have h1:=ih (fun y hy=>h y (by simp [hy])) 0
   have:=h x (by simp)
   simp at h1 ⊢
   omega
  | succ k =>
   have h1:=ih (fun y hy=>h y (by simp [hy])) k
   simp
   omega
theorem zFA {l:List Int} {k:Nat} (hk:k<l.length):(l.take (k+1)).sum=(l.take k).sum+l[k]:=by
 rw [List.take_succ_eq_append_getElem hk,List.sum_append]
 simp
theorem zKC (A:Option Addr) (c:Nat) (l:List Int) (w:World) (h:SliceR 1 (.slice A l.length c) l.length (ints l) w) (hb:∀ x∈l,-9223372036854775808≤x∧x≤9223372036854775807) :
    Calls Tryz.prog 203 #[.slice A l.length c] w fun e w'=>e=.returned (.bool (fitsB l))∧w=w':=by
 have H:=LH h
 have HB:=LH hb
 clear h hb
 by_cases h0:l.length=0
 ·have hf:fitsB l=false:=by simp [fitsB,h0]
  have HF:=LH hf
  clear hf
  have h1:(l.length:Int)<1:=by omega
  clear h0
  go_enter Tryz.func203,Tryz.ntmps203
  go_wp2
  go_ret
  exact ⟨by rw [HF.out];rfl,rfl⟩
 have h1:¬ ((l.length:Int)<1):=by omega
 by_cases h16:16<l.length
 ·have hf:fitsB l=false:=by simp [fitsB];omega
  have HF:=LH hf
  clear hf
  have h2:(16:Int)<l.length:=by omega
  go_enter Tryz.func203,Tryz.ntmps203
  go_wp2
  go_ret
  exact ⟨by rw [HF.out];rfl,rfl⟩
 have h2:¬ ((16:Int)<l.length):=by omega
 obtain ⟨ad,rfl,q0⟩:=SliceR.int_at (k:=.i64) H.out 0 (by omega)
 have q0':w.cell? ad=some (.int .i64 l[0]):=by simpa [Addr.add] using q0
 have hhd:l.headD 0=l[0]:=by
  cases l with
  | nil=>simp at h0
  | cons x r=>rfl
 clear q0
 by_cases hx:l[0]<1
 ·have hf:fitsB l=false:=decide_eq_false (fun ⟨_,_,g,_⟩=>by omega)
  have HF:=LH hf
  clear hf hhd h0
  go_enter Tryz.func203,Tryz.ntmps203
  go_wp2
  go_ret
  exact ⟨by rw [HF.out];rfl,rfl⟩
 ·have Hh := LH hhd
  clear hhd h0
  go_enter Tryz.func203,Tryz.ntmps203
  go_wp2
  clear q0'
  go_loopw [3,24] (fun vn v wr=>wr=w∧∃ k:Nat,k≤l.length∧v=.int .i64 k∧vn=.int .i64 (l.take k).sum∧Hid ((∀ x∈l.take k,0≤x)∧0≤(l.take k).sum∧(l.take k).sum≤4096)) (fun _ v _=>l.length-(intOf v).toNat)
  case atStart=>exact ⟨rfl,0,by omega,rfl,by simp,by intro x hx;simp at hx,by simp⟩
  case round =>
   obtain ⟨rfl,k,hk,rfl,rfl,HS⟩:=hrel
   by_cases hlt:k<l.length
   ·obtain ⟨ad2,e,q1⟩:=SliceR.int_at (k:=.i64) H.out k hlt
    injection e with e
    subst e
    have hw:IntKind.i64.wrap ((k:Int)+1)=(k:Int)+1:=IntWalk.i64_in _ (by omega)
    have hlt':(k:Int)<l.length:=by omega
    have hsu:=zFA hlt
    have hs0:=HS.out.2.1
    have hs1:=HS.out.2.2
    by_cases hok:0≤l[k]∧l[k]≤4096-(l.take k).sum
    ·have Hsu:=LH hsu
     have HS2:Hid ((∀ x∈l.take (k+1),0≤x)∧0≤(l.take (k+1)).sum∧(l.take (k+1)).sum≤4096):=by
      refine ⟨?_,by omega,by omega⟩
      rw [List.take_succ_eq_append_getElem hlt]
      intro x hx
      rcases List.mem_append.1 hx with e | e
      ·exact HS.out.1 x e
      ·rw [List.mem_singleton.1 e];exact hok.1
     have hA:=hok.1
     have hB:=hok.2
     clear hsu hok
     go_wp2_with fail
     refine (zxG _ _ 4096 wr hs0 hA hs1 hB (by omega)).mono ?_
     rintro e w' ⟨rfl,rfl⟩
     rw [← Hsu.out]
     go_wp2
     go_roundw
     case rel=>exact ⟨trivial,k+1,by omega,by go_num,rfl,HS2⟩
     case measure=>simp [intOf];omega
    ·have hf:fitsB l=false:=by
       have hn:¬ ((∀ x∈l,0≤x)∧l.sum≤4096):=fun ⟨g1,g2⟩=>hok ⟨g1 _ (List.getElem_mem hlt),by have:=zx g1 (k+1);omega⟩
       exact decide_eq_false (fun ⟨_,_,_,g1,g2⟩=>hn ⟨g1,g2⟩)
     have HF:=LH hf
     have hlo:=(HB.out _ (List.getElem_mem hlt)).1
     clear hf hsu
     go_wp2_with fail
     refine (zGI (l.take k).sum l[k] 4096 wr (by omega) (by omega) (by omega) (by omega)).mono ?_
     rintro e w' ⟨rfl,rfl⟩
     clear hok
     go_wp2
     go_ret
     exact ⟨by rw [HF.out];rfl,rfl⟩
   ·obtain rfl:k=l.length:=by omega
    have hlt':¬ ((l.length:Int)<l.length):=by omega
    have hf:fitsB l=true:=by
     have hS:=HS.out
     rw [List.take_length] at hS
     exact decide_eq_true ⟨by omega,by omega,by rw [Hh.out];omega,hS.1,hS.2.2⟩
    have HF:=LH hf
    clear hf
    go_wp2
    go_ret
    exact ⟨by rw [HF.out];rfl,rfl⟩
theorem zJF {a:List (List Int)} (h:OkA a):∀ x∈szs a,0≤x∧x≤100000:=by
 intro x hx
 obtain ⟨s,hs,rfl⟩:=List.mem_map.1 hx
 have:=h.words s hs
 omega
theorem zQD (a:List (List Int)) (v:Value) (w:World) (h:RowsR .u64 a v w) (ha:OkA a) :
    Calls Tryz.prog 132 #[v] w fun e w'=>e=.returned (.bool (fitsB (szs a)))∧Grow w w':=by
 obtain ⟨A,n,rfl⟩:=h.slice
 have H:=LH h
 have HA:=LH ha
 clear h ha
 go_enter Tryz.func132,Tryz.ntmps132
 go_wp2_with fail
 refine (zuB a _ w H.out HA.out.segs).mono ?_
 rintro e w1 ⟨A1,c1,rfl,hg,ho⟩
 have Hg:=LH hg
 have Ho:=LH (SliceR.of_own ho)
 clear hg ho
 go_wp2_with fail
 refine (zKC A1 c1 (szs a) w1 Ho.out (fun x hx=>by have:=zJF HA.out x hx;omega)).mono ?_
 rintro e w' ⟨rfl,rfl⟩
 go_wp2
 go_ret
 exact ⟨rfl,Hg.out⟩
def withinB (l:List Int) (seg at_ n:Int):Bool:=decide (0≤seg∧seg<l.length∧0≤at_∧0≤n∧at_+n≤l.getD seg.toNat 0)
theorem zKF (A:Option Addr) (c:Nat) (l:List Int) (w:World) (h:SliceR 1 (.slice A l.length c) l.length (ints l) w) (hb:∀ x∈l,0≤x∧x≤100000) (seg at_ n:Int) (hat : -9223372036854775808≤at_) :
    Calls Tryz.prog 275 #[.slice A l.length c,.int .i64 seg,.int .i64 at_,.int .i64 n] w fun e w'=>e=.returned (.bool (withinB l seg at_ n))∧w=w':=by
 have H:=LH h
 have HB:=LH hb
 clear h hb
 by_cases h0:seg<0
 ·have HF:Hid (withinB l seg at_ n=false):=decide_eq_false (fun ⟨g,_⟩=>by omega)
  go_enter Tryz.func275,Tryz.ntmps275
  go_wp2
  go_ret
  exact ⟨by rw [HF.out];rfl,rfl⟩
 by_cases h1:(l.length:Int)≤seg
 ·have HF:Hid (withinB l seg at_ n=false):=decide_eq_false (fun ⟨_,g,_⟩=>by omega)
  go_enter Tryz.func275,Tryz.ntmps275
  go_wp2
  go_ret
  exact ⟨by rw [HF.out];rfl,rfl⟩
 obtain ⟨k,rfl⟩:∃ k:Nat,seg=k:=⟨seg.toNat,by omega⟩
 have hk:k<l.length:=by omega
 obtain ⟨ad,rfl,q0⟩:=SliceR.int_at (k:=.i64) H.out k hk
 have hb:=HB.out _ (List.getElem_mem hk)
 have hgd:l.getD k 0=l[k]:=by simp [List.getD_eq_getElem?_getD,List.getElem?_eq_getElem hk]
 have hk':(k:Int)<l.length:=by omega
 by_cases hok:0≤at_∧0≤n∧at_+n≤l[k]
 ·have HF:Hid (withinB l k at_ n=true):=decide_eq_true ⟨by omega,by omega,hok.1,hok.2.1,by rw [Int.toNat_natCast,hgd];exact hok.2.2⟩
  have hb2:=hb.2
  obtain ⟨o1,o2,o3⟩:=hok
  clear hgd hb
  go_enter Tryz.func275,Tryz.ntmps275
  go_wp2_with fail
  refine (zxG at_ n l[k] w o1 o2 (by omega) (by omega) (by omega)).mono ?_
  rintro e w' ⟨rfl,rfl⟩
  go_wp2
  go_ret
  exact ⟨by rw [HF.out];rfl,rfl⟩
 ·have HF:Hid (withinB l k at_ n=false):=decide_eq_false (fun ⟨_,_,g1,g2,g3⟩=>hok ⟨g1,g2,by rw [Int.toNat_natCast,hgd] at g3;exact g3⟩)
  have hno:at_<0∨n<0∨l[k]<at_∨l[k]-at_<n:=by omega
  have Hno:=LH hno
  clear hno
  have hb1:=hb.1
  have hb2:=hb.2
  clear hgd hb hok
  go_enter Tryz.func275,Tryz.ntmps275
  go_wp2_with fail
  refine (zGI at_ n l[k] w Hno.out hat hb1 (by omega)).mono ?_
  rintro e w' ⟨rfl,rfl⟩
  go_wp2
  go_ret
  exact ⟨by rw [HF.out];rfl,rfl⟩
def wordA (a:List (List Int)) (seg at_:Int):Int×Int :=
 if 0≤seg∧seg<a.length∧0≤at_∧at_<(a.getD seg.toNat []).length then ((a.getD seg.toNat []).getD at_.toNat 0,0) else (0,20)
theorem zkB {a:List (List Int)} {seg at_:Int} (h:¬ (0≤seg∧seg<a.length∧0≤at_∧at_<(a.getD seg.toNat []).length)):wordA a seg at_=(0,20):=if_neg h
theorem zQH (a:List (List Int)) (v:Value) (w:World) (h:RowsR .u64 a v w) (seg at_:Int) :
    Calls Tryz.prog 318 #[v,.int .i64 seg,.int .i64 at_] w fun e w'=>e=.returned (.tuple #[.int .u64 (wordA a seg at_).1,.int .u16 (wordA a seg at_).2])∧w=w':=by
 obtain ⟨A,n,rfl⟩:=h.slice
 have H:=LH h
 clear h
 by_cases h0:seg<0
 ·rw [zkB (fun ⟨g,_⟩=>by omega)]
  go_enter Tryz.func318,Tryz.ntmps318
  go_wp2
  go_ret2
  exact ⟨rfl,rfl⟩
 by_cases h1:(a.length:Int)≤seg
 ·rw [zkB (fun ⟨_,g,_⟩=>by omega)]
  go_enter Tryz.func318,Tryz.ntmps318
  go_wp2
  go_ret2
  exact ⟨rfl,rfl⟩
 by_cases h2:at_<0
 ·rw [zkB (fun ⟨_,_,g,_⟩=>by omega)]
  go_enter Tryz.func318,Tryz.ntmps318
  go_wp2
  go_ret2
  exact ⟨rfl,rfl⟩
 obtain ⟨k,rfl⟩:∃ k:Nat,seg=k:=⟨seg.toNat,by omega⟩
 obtain ⟨i,rfl⟩:∃ i:Nat,at_=i:=⟨at_.toNat,by omega⟩
 have hk:k<a.length:=by omega
 obtain ⟨ad,A',c',rfl,q0,hs⟩:=H.out.at_ k hk
 have hgd:a.getD k []=a[k]:=by simp [List.getD_eq_getElem?_getD,List.getElem?_eq_getElem hk]
 have hk':(k:Int)<a.length:=by omega
 by_cases hi:i<a[k].length
 ·have hi':(i:Int)<a[k].length:=by omega
  obtain ⟨ad2,rfl,q1⟩:=SliceR.int_at (k:=.u64) hs i hi
  have HF:Hid (wordA a k i=(a[k][i],0)):=by
   show _=_
   unfold wordA
   rw [if_pos ⟨by omega,by omega,by omega,by rw [Int.toNat_natCast,hgd];exact hi'⟩,Int.toNat_natCast,hgd,Int.toNat_natCast]
   simp [List.getD_eq_getElem?_getD,List.getElem?_eq_getElem hi]
  clear hgd hs h2
  go_enter Tryz.func318,Tryz.ntmps318
  go_wp2
  go_ret2
  rw [HF.out]
  exact ⟨rfl,rfl⟩
 ·have hi':(a[k].length:Int)≤i:=by omega
  have HF:Hid (wordA a k i=(0,20)):=zkB (fun ⟨_,_,_,g⟩=>by rw [Int.toNat_natCast,hgd] at g;omega)
  clear hgd hs h2
  go_enter Tryz.func318,Tryz.ntmps318
  go_wp2
  go_ret2
  rw [HF.out]
  exact ⟨rfl,rfl⟩
theorem zLF (a:List (List Int)) (v:Value) (w:World) (h:RowsR .u64 a v w) (ha:OkA a) :
    Calls Tryz.prog 316 #[.agg #[v]] w fun e w'=>∃ A c,e=.returned (.slice A (szs a).length c)∧Grow w w'∧SliceR 1 (.slice A (szs a).length c) (szs a).length (ints (szs a)) w':=by
 obtain ⟨A,n,rfl⟩:=h.slice
 have hw1:Grow w (w.alloc (.cells #[.slice A a.length n] 363)):=(Keep.refl _ _).alloc _
 have H:=LH (h.grow hw1)
 have Hw:=LH hw1
 have HA:=LH ha
 clear h ha hw1
 go_enter Tryz.func316,Tryz.ntmps316
 go_wp2_with fail
 refine (zuB a _ _ H.out HA.out.segs).mono ?_
 rintro e w1 ⟨A1,c1,rfl,hg,ho⟩
 have Hg:=LH hg
 have Ho:=LH (SliceR.of_own ho)
 clear hg ho
 go_wp2
 go_ret
 exact ⟨A1,c1,rfl,Hw.out.grow Hg.out,Ho.out⟩
theorem zPG (a:List (List Int)) (v:Value) (w:World) (h:RowsR .u64 a v w) (seg at_:Int) :
    Calls Tryz.prog 317 #[.agg #[v],.int .i64 seg,.int .i64 at_] w fun e w'=>e=.returned (.tuple #[.int .u64 (wordA a seg at_).1,.int .u16 (wordA a seg at_).2])∧Grow w w':=by
 obtain ⟨A,n,rfl⟩:=h.slice
 have hw1:Grow w (w.alloc (.cells #[.slice A a.length n] 363)):=(Keep.refl _ _).alloc _
 have H:=LH (h.grow hw1)
 have Hw:=LH hw1
 clear h hw1
 go_enter Tryz.func317,Tryz.ntmps317
 go_wp2_with fail
 refine (zQH a _ _ H.out seg at_).mono ?_
 rintro e w' ⟨rfl,rfl⟩
 go_wp2
 go_ret2
 exact ⟨rfl,Hw.out⟩
structure Sou (sv:Value) (sz:List Int) (wd:Int→Int→Int×Int) (w:World):Prop where
 out:∃ T pv fw fs r,sv=.iface T pv ∧
  (∀ w', (method 494 T pv "Word").run Tryz.prog w' = .ok (fw, r) w') ∧ (∀ w', (method 494 T pv "Sizes").run Tryz.prog w' = .ok (fs, r) w') ∧
  (∀ w' x y,(callFunc fw #[r,x,y]).run Tryz.prog w'=.ok (.enter fw #[r,x,y]) w')∧(∀ w',(callFunc fs #[r]).run Tryz.prog w'=.ok (.enter fs #[r]) w') ∧
  (∀ w',Grow w w'→∀ seg at_,Calls Tryz.prog fw #[r,.int .i64 seg,.int .i64 at_] w' fun e w2=>e=.returned (.tuple #[.int .u64 (wd seg at_).1,.int .u16 (wd seg at_).2])∧Grow w' w2) ∧
  (∀ w',Grow w w'→Calls Tryz.prog fs #[r] w' fun e w2=>∃ A c,e=.returned (.slice A sz.length c)∧Grow w' w2∧SliceR 1 (.slice A sz.length c) sz.length (ints sz) w2)
theorem zRH (v : Value) (w : World) : (method 494 363 (.agg #[v]) "Word").run Tryz.prog w = .ok (317, .agg #[v]) w := by kernel_rfl
theorem zQG (v : Value) (w : World) : (method 494 363 (.agg #[v]) "Sizes").run Tryz.prog w = .ok (316, .agg #[v]) w := by kernel_rfl
theorem Sou.grow {sv:Value} {sz:List Int} {wd:Int→Int→Int×Int} {w w':World} (h:Sou sv sz wd w) (hg:Grow w w'):Sou sv sz wd w':=by
 obtain ⟨T,pv,fw,fs,r,h1,h2,h3,k1,k2,h4,h5⟩:=h.out
 exact ⟨T,pv,fw,fs,r,h1,h2,h3,k1,k2,fun w2 hg2=>h4 w2 (hg.grow hg2),fun w2 hg2=>h5 w2 (hg.grow hg2)⟩
theorem zHI {a:List (List Int)} {v:Value} {w:World} (h:RowsR .u64 a v w) (ha:OkA a):Sou (.iface 363 (.agg #[v])) (szs a) (wordA a) w :=
 ⟨_,_,_,_,_,rfl,zRH v,zQG v,fun _ _ _=>by kernel_rfl,fun _=>by kernel_rfl,fun w' hg seg at_=>zPG a v w' (h.grow hg) seg at_,fun w' hg=>zLF a v w' (h.grow hg) ha⟩
theorem zRG (A:Option Addr) (n c:Nat) (w:World):Calls Tryz.prog 243 #[.slice A n c] w fun e w'=>e=.returned (.iface 363 (.agg #[.slice A n c]))∧w=w':=by
 go_enter Tryz.func243,Tryz.ntmps243
 go_wp2
 go_ret
 exact ⟨rfl,rfl⟩
theorem zWB (w:World):Calls Tryz.prog 277 #[] w fun e w'=>e=.returned (.agg #[.int .i64 0,.int .i64 2])∧Grow w w':=by
 go_enter Tryz.func277,Tryz.ntmps277
 go_wp2
 (try simp only [Exit.inBlock,Exit.then])
 refine bodyPost_ret (v:=.agg #[.int .i64 0,.int .i64 2]) ?_ rfl ⟨rfl,(Keep.refl _ _).alloc _⟩
 simp [results,Tryz.results277,go_sem]
theorem zeB (w:World):Calls Tryz.prog 287 #[] w fun e w'=>e=.returned (.agg #[.int .i64 2,.int .i64 30])∧Grow w w':=by
 go_enter Tryz.func287,Tryz.ntmps287
 go_wp2
 (try simp only [Exit.inBlock,Exit.then])
 refine bodyPost_ret (v:=.agg #[.int .i64 2,.int .i64 30]) ?_ rfl ⟨rfl,(Keep.refl _ _).alloc _⟩
 simp [results,Tryz.results287,go_sem]
theorem zSG (w:World):Calls Tryz.prog 279 #[] w fun e w'=>e=.returned (.agg #[.int .i64 32,.int .i64 16])∧Grow w w':=by
 go_enter Tryz.func279,Tryz.ntmps279
 go_wp2
 (try simp only [Exit.inBlock,Exit.then])
 refine bodyPost_ret (v:=.agg #[.int .i64 32,.int .i64 16]) ?_ rfl ⟨rfl,(Keep.refl _ _).alloc _⟩
 simp [results,Tryz.results279,go_sem]
theorem zTG (w:World):Calls Tryz.prog 280 #[] w fun e w'=>e=.returned (.agg #[.int .i64 48,.int .i64 16])∧Grow w w':=by
 go_enter Tryz.func280,Tryz.ntmps280
 go_wp2
 (try simp only [Exit.inBlock,Exit.then])
 refine bodyPost_ret (v:=.agg #[.int .i64 48,.int .i64 16]) ?_ rfl ⟨rfl,(Keep.refl _ _).alloc _⟩
 simp [results,Tryz.results280,go_sem]
theorem zUG (w:World):Calls Tryz.prog 281 #[] w fun e w'=>e=.returned (.agg #[.int .i64 32,.int .i64 3])∧Grow w w':=by
 go_enter Tryz.func281,Tryz.ntmps281
 go_wp2
 (try simp only [Exit.inBlock,Exit.then])
 refine bodyPost_ret (v:=.agg #[.int .i64 32,.int .i64 3]) ?_ rfl ⟨rfl,(Keep.refl _ _).alloc _⟩
 simp [results,Tryz.results281,go_sem]
theorem zMF (w:World):Calls Tryz.prog 282 #[] w fun e w'=>e=.returned (.agg #[.int .i64 35,.int .i64 29])∧Grow w w':=by
 go_enter Tryz.func282,Tryz.ntmps282
 go_wp2
 (try simp only [Exit.inBlock,Exit.then])
 refine bodyPost_ret (v:=.agg #[.int .i64 35,.int .i64 29]) ?_ rfl ⟨rfl,(Keep.refl _ _).alloc _⟩
 simp [results,Tryz.results282,go_sem]
theorem zrE (w:World):Calls Tryz.prog 285 #[] w fun e w'=>e=.returned (.agg #[.int .i64 2,.int .i64 1])∧Grow w w':=by
 go_enter Tryz.func285,Tryz.ntmps285
 go_wp2
 (try simp only [Exit.inBlock,Exit.then])
 refine bodyPost_ret (v:=.agg #[.int .i64 2,.int .i64 1]) ?_ rfl ⟨rfl,(Keep.refl _ _).alloc _⟩
 simp [results,Tryz.results285,go_sem]
theorem zNF (w:World):Calls Tryz.prog 283 #[] w fun e w'=>e=.returned (.agg #[.int .i64 3,.int .i64 29])∧Grow w w':=by
 go_enter Tryz.func283,Tryz.ntmps283
 go_wp2
 (try simp only [Exit.inBlock,Exit.then])
 refine bodyPost_ret (v:=.agg #[.int .i64 3,.int .i64 29]) ?_ rfl ⟨rfl,(Keep.refl _ _).alloc _⟩
 simp [results,Tryz.results283,go_sem]
theorem zSH (w:World):Calls Tryz.prog 284 #[] w fun e w'=>e=.returned (.agg #[.int .i64 32,.int .i64 32])∧Grow w w':=by
 go_enter Tryz.func284,Tryz.ntmps284
 go_wp2
 (try simp only [Exit.inBlock,Exit.then])
 refine bodyPost_ret (v:=.agg #[.int .i64 32,.int .i64 32]) ?_ rfl ⟨rfl,(Keep.refl _ _).alloc _⟩
 simp [results,Tryz.results284,go_sem]
theorem zHL (b:Nat) (hb:b≤63):(1:Int)≤2 ^ b∧(2:Int) ^ b≤9223372036854775808:=by
 have h1:1≤2 ^ b:=Nat.two_pow_pos b
 have h2:2 ^ b≤9223372036854775808:=Nat.pow_le_pow_right (n:=2) (by decide) hb
 have e:(2:Int) ^ b=((2 ^ b:Nat):Int):=by simp
 rw [e]
 omega
theorem zbK (x:Int) (a b:Nat) (hx:0≤x) (hx2:x≤18446744073709551615) (hb:b≤63):bits .and .u64 (x/2 ^ a) (2 ^ b-1)=x/2 ^ a%2 ^ b:=by
 obtain ⟨n,rfl⟩:∃ n:Nat,x=n:=⟨x.toNat,by omega⟩
 have h1:(n:Int)/2 ^ a=((n/2 ^ a:Nat):Int):=by simp
 have hp:1≤2 ^ b:=Nat.two_pow_pos b
 have hp2:2 ^ b≤2 ^ 63:=Nat.pow_le_pow_right (by decide) hb
 have h2:(2:Int) ^ b-1=((2 ^ b-1:Nat):Int):=by
  rw [Int.natCast_sub hp]
  simp
 rw [h1,h2,bits_and_u64_nat _ _ (Nat.lt_of_le_of_lt (Nat.div_le_self _ _) (by omega)) (by omega),Nat.and_two_pow_sub_one_eq_mod]
 simp
theorem zUA (a b x:Int) (w:World) (h0:0≤a) (h1:a≤63) (h2:1≤b) (h3:b≤63) (hx:0≤x) (hx2:x≤18446744073709551615):Calls Tryz.prog 278 #[.agg #[.int .i64 a,.int .i64 b],.int .u64 x] w fun e w'=>e=.returned (.int .u64 (x/2 ^ a.toNat%2 ^ b.toNat))∧Grow w w':=by
 have hg:=(Keep.refl NoB w).alloc (.cells #[.int .i64 a,.int .i64 b] 374)
 have hd:=heap_alloc_new w (.cells #[.int .i64 a,.int .i64 b] 374)
 have c0:(w.alloc (.cells #[.int .i64 a,.int .i64 b] 374)).drew.cell? ⟨w.heap.size,0,none⟩=some (.int .i64 a):=World.news_of_block hd 0 _ rfl
 have c1:(w.alloc (.cells #[.int .i64 a,.int .i64 b] 374)).drew.cell? ⟨w.heap.size,1,none⟩=some (.int .i64 b):=World.news_of_block hd 1 _ rfl
 have Hg:=LH hg
 clear hg hd
 obtain ⟨hp0,hp1⟩:=zHL b.toNat (by omega)
 have hp2:IntKind.u64.wrap (2 ^ b.toNat)=2 ^ b.toNat:=IntWalk.u64_in _ (by omega)
 have hp3:IntKind.u64.wrap (2 ^ b.toNat-1)=2 ^ b.toNat-1:=IntWalk.u64_in _ (by omega)
 have hand:=zbK x a.toNat b.toNat hx hx2 (by omega)
 have Hh:=LH hand
 clear hand hp0 hp1
 go_enter Tryz.func278,Tryz.ntmps278
 go_wp2
 refine zD [0,1,2,3,4,5,6,7,8,9] [9] [2,5] [] rfl (by kernel_rfl) ?_
 iterate 2
  refine ord_p ?_
 refine ord_r (y:=by intro w' hg;have q:=hg.cell c0 (fun h=>h);go_simp;with_reducible rfl) (z:=?_)
 refine ord_p ?_
 refine ord_p ?_
 refine ord_r (y:=by intro w' hg;have q:=hg.cell c1 (fun h=>h);go_simp;with_reducible rfl) (z:=?_)
 refine ord_p ?_
 refine ord_p ?_
 refine ord_p ?_
 refine ord_s ?_
 refine zF ?_
 go_wp2
 go_ret
 rw [← Hh.out]
 exact ⟨rfl,Hg.out.drew⟩
end Go.Proofs.YtfkcpaahdlkcdaaGreat

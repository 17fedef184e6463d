import Derived.WalkKit
import Derived.ProofKit
import Derived.Deep.RegionHeld3
import Derived.Deep.RegionLaw
import Derived.Deep.QuietTactic
import Derived.BigQuiet
import Derived.Lib.Hide
import Derived.Deep.AppendLies
import Derived.Deep.AppendSrc
import Derived.KernelRfl
import Derived.Handy
import Derived.Lib.SlBytesConst
import Derived.Laws.BytesArg
import Derived.WalkSpells
import Derived.WalkLawsBesides
import Derived.Test.YtfkcpaahdlkcdaaGreatProg
import Derived.OrdersHeld
import Derived.LoopTactic
import Derived.Laws.Bits64b
import Derived.RegionTactic
import Derived.RangeFuncNested
import Derived.RangeFuncBound
import Derived.RangeFuncCalls
import Derived.RangeFuncLeaves
import Derived.Shelf.Abstract
import Derived.Shelf.RegionOpen
import Derived.OwnWalkIn
import Derived.TacticsInMore
import Derived.LoopNIn
import Derived.LoopIn
import Derived.RangeFuncBox
import Derived.Maps.AppendAt
import Derived.OrdersIn
import Derived.Laws.BitsAllLaws
import Derived.Maps.OwnSet
import Derived.Laws.StructEq
import Derived.Maps.RangeWalk
import Derived.Laws.ResultCell
import Derived.OpenShut
import Derived.ShutString
import Derived.ChangeOld
import Derived.SizedLaws
import Derived.Deep.Matrix
import Derived.Deep.Grids
set_option linter.unusedSimpArgs false
set_option linter.unusedVariables false
set_option maxRecDepth 100000
set_option maxHeartbeats 16000000
namespace Go.Proofs.YtfkcpaahdlkcdaaGreat
theorem pB {α : Type} (l : List α) (i : Nat) (a : α) : l.toArray.setIfInBounds i a = (l.set i a).toArray := List.setIfInBounds_toArray ..
theorem pC {α : Type} (x : α) (l : List α) (a : α) : (x :: l).set 0 a = a :: l := List.set_cons_zero ..
theorem pD {α : Type} (x : α) (l : List α) (i : Nat) (a : α) : (x :: l).set (i + 1) a = x :: l.set i a := List.set_cons_succ ..
structure QA
instance : Coe QA (Array Value) := ⟨fun _ => #[.int .i64 0,.int .i64 0,.slice none 0 0,.slice none 0 0,.slice none 0 0]⟩
def qA : QA := ⟨⟩
structure QB
instance : Coe QB (Array Value) := ⟨fun _ => #[.int .i64 0,.int .i64 0,.int .i64 0,.int .i64 0,.int .i64 0,.int .i64 0,.int .i64 0,.bool false]⟩
def qB : QB := ⟨⟩
structure QC
instance : Coe QC (Array Value) := ⟨fun _ => #[.int .i64 0,.int .i64 0,.int .i64 0,.int .i64 0,.int .u64 0]⟩
def qC : QC := ⟨⟩
structure QE
instance : Coe QE (Array Value) := ⟨fun _ => #[.int .i64 0,.int .u64 0,.int .i64 0,.int .i64 0,.int .u32 0,.slice none 0 0,.slice none 0 0]⟩
def qE : QE := ⟨⟩
structure QF
instance : Coe QF (Array Value) := ⟨fun _ => #[.slice none 0 0,.bool false,.slice none 0 0,.int .i64 0,.int .i64 0]⟩
def qF : QF := ⟨⟩
structure QG
instance : Coe QG (Array Value) := ⟨fun _ => #[.int .u64 0,.slice none 0 0,.int .u32 0,.slice none 0 0]⟩
def qG : QG := ⟨⟩
structure QH
instance : Coe QH (Array Value) := ⟨fun _ => #[.int .i64 0,.int .u16 0,.int .i64 0,.int .i64 0]⟩
def qH : QH := ⟨⟩
structure QI
instance : Coe QI Value := ⟨fun _ => .slice none 0 0⟩
def qI : QI := ⟨⟩
structure QJ
instance : Coe QJ Value := ⟨fun _ => .int .i64 0⟩
def qJ : QJ := ⟨⟩
structure QL
instance : Coe QL Value := ⟨fun _ => .bool false⟩
def qL : QL := ⟨⟩
structure QN
instance : Coe QN Value := ⟨fun _ => .int .u64 0⟩
def qN : QN := ⟨⟩
structure QO
instance : Coe QO Value := ⟨fun _ => .int .u32 0⟩
def qO : QO := ⟨⟩
structure QQ
instance : Coe QQ Value := ⟨fun _ => .int .i64 2⟩
def qQ : QQ := ⟨⟩
instance : Coe Int Value := ⟨fun x => .int .i64 x⟩
instance : Coe Unit (Array Value) := ⟨fun _ => #[.int .i64 0,.int .i64 0,.int .i64 0,.int .i64 0,.int .i64 0,.int .i64 0,.int .i64 0]⟩
theorem LH {p : Prop} (h : p) : RowKit.Hid p := h
theorem gE {α : Type} {xs : Array α} {i : Nat} {b : α} : xs[i]? = some b → ∃ h : i < xs.size, xs[i] = b := Array.getElem?_eq_some_iff.1
end Go.Proofs.YtfkcpaahdlkcdaaGreat
namespace Go.Proofs.YtfkcpaahdlkcdaaGreat
open Go.RowKit
structure Keep (S:Nat→Prop) (w w':World):Prop where
 os:w'.os=w.os
 tape:w'.tape=w.tape
 output:w'.output=w.output
 size:w.heap.size≤w'.heap.size
 block:∀ k,k<w.heap.size→¬ S k→w'.heap[k]? = w.heap[k]?
def NoB:Nat→Prop:=fun _=>False
abbrev Grow (w w':World):Prop:=Keep NoB w w'
namespace Keep
variable {S T:Nat→Prop} {a b c:World}
theorem refl (S:Nat→Prop) (w:World):Keep S w w:=⟨rfl,rfl,rfl,Nat.le_refl _,fun _ _ _=>rfl⟩
theorem trans (h:Keep S a b) (k:Keep T b c) (hT:∀ i,T i→S i∨a.heap.size≤i):Keep S a c :=
 ⟨k.os.trans h.os,k.tape.trans h.tape,k.output.trans h.output,Nat.le_trans h.size k.size,fun i hi hS =>
  (k.block i (Nat.lt_of_lt_of_le hi h.size) (fun ht=>(hT i ht).elim hS (fun hge=>absurd hi (Nat.not_lt.2 hge)))).trans (h.block i hi hS)⟩
theorem mono (h:Keep S a b) (hS:∀ i,S i→T i):Keep T a b:=⟨h.os,h.tape,h.output,h.size,fun i hi hT=>h.block i hi (fun hs=>hT (hS i hs))⟩
theorem grow (h:Keep S a b) (k:Grow b c):Keep S a c:=h.trans k (fun _ hf=>hf.elim)
theorem drew (h:Keep S a b):Keep S a b.drew:=⟨h.os,h.tape,h.output,h.size,h.block⟩
theorem alloc (h:Keep S a b) (o:Obj):Keep S a (b.alloc o) :=
 h.trans (T:=NoB) ⟨rfl,rfl,rfl,by simp,fun k hk _=>Below.heap_alloc _ _ _ hk⟩ (fun _ hf=>hf.elim)
theorem setCell (h:Keep S a b) {p:Addr} (hp:S p.block∨a.heap.size≤p.block) (u:Value):Keep S a (b.setCell p u) :=
 h.trans (T:=fun k=>k=p.block) ⟨rfl,rfl,rfl,by simp [World.setCell],fun k _ hne=>Below.heap_setCell _ _ _ _ hne⟩ (fun i hi=>by rw [hi];exact hp)
theorem grown (h:Keep S a b) {row:Option Nat} (hg:b.grownBy c row) (hr:∀ k,row=some k→S k∨a.heap.size≤k):Keep S a c :=
 h.trans (T:=fun k=>row=some k) ⟨hg.os,hg.tape,hg.output,hg.size,fun k hk hne=>hg.block k hk (fun e=>hne e.symm)⟩ hr
theorem of_below (h:Below a.heap.size a b):Grow a b:=⟨h.os,h.tape,h.output,h.size,fun k hk _=>h.block k hk⟩
theorem below (h:Keep S a b) (B:Nat) (hB:B≤a.heap.size) (hS:∀ i,S i→B≤i):Below B a b :=
 ⟨h.os,h.tape,h.output,h.size,fun k hk=>h.block k (Nat.lt_of_lt_of_le hk hB) (fun hs=>absurd hk (Nat.not_lt.2 (hS k hs)))⟩
theorem new (h:Keep S a b) (hS:∀ i,S i→a.heap.size≤i):Grow a b:=⟨h.os,h.tape,h.output,h.size,fun k hk _=>h.block k hk (fun hs=>absurd hk (Nat.not_lt.2 (hS k hs)))⟩
theorem cell (h:Keep S a b) {p:Addr} {v:Value} (hc:a.cell? p=some v) (hS:¬ S p.block):b.cell? p=some v :=
 (World.cell?_of_block (w:=a) (h.block p.block (World.block_lt_of_cell? _ _ hc) hS)).trans hc
theorem frozen (h:Keep S a b) {p:Addr} (hc:p.block<a.heap.size) (hS:¬ S p.block):b.frozen? p=a.frozen? p :=
 World.frozen?_of_block (w:=a) (h.block p.block hc hS)
end Keep
def Foot (P:World→Prop) (W:World) (F:Nat→Prop):Prop:=(∀ k,F k→k<W.heap.size)∧∀ W':World,(∀ k,F k→W'.heap[k]? = W.heap[k]?)→P W'
namespace Foot
variable {P Q:World→Prop} {W W':World} {F G S:Nat→Prop}
theorem now (h:Foot P W F):P W:=h.2 W (fun _ _=>rfl)
theorem lt (h:Foot P W F) {k:Nat} (hk:F k):k<W.heap.size:=h.1 k hk
theorem keep (h:Foot P W F) (hk:Keep S W W') (hd:∀ k,F k→¬ S k):Foot P W' F :=
 ⟨fun k hF=>Nat.lt_of_lt_of_le (h.1 k hF) hk.size,fun W2 h2=>h.2 W2 (fun k hF=>(h2 k hF).trans (hk.block k (h.1 k hF) (hd k hF)))⟩
theorem grow (h:Foot P W F) (hk:Grow W W'):Foot P W' F:=h.keep hk (fun _ _ hf=>hf.elim)
theorem imp (h:Foot P W F) (hi:∀ W',P W'→Q W'):Foot Q W F:=⟨h.1,fun W' hW=>hi W' (h.2 W' hW)⟩
theorem and (h:Foot P W F) (k:Foot Q W G):Foot (fun w=>P w∧Q w) W (fun i=>F i∨G i) :=
 ⟨fun i hi=>hi.elim (h.1 i) (k.1 i),fun W' hW=>⟨h.2 W' (fun i hi=>hW i (.inl hi)),k.2 W' (fun i hi=>hW i (.inr hi))⟩⟩
theorem mono (h:Foot P W F) (hG:∀ k,G k→k<W.heap.size) (hFG:∀ k,F k→G k):Foot P W G:=⟨hG,fun W' hW=>h.2 W' (fun k hk=>hW k (hFG k hk))⟩
end Foot
theorem zVE {P:Program} {t e:TypeId} (h:P.underlying t=some (.slice e)) (w:World) (a:Option Addr) (n c:Nat):(binOp .eql t (.slice a n c) (.slice none 0 0)).run P w=.ok (.bool a.isNone) w:=by
 simp only [binOp]
 simp [Op.equal,Op.maxDepth,Lib.run_equalIn_slice_nil w 9999 t e a n c 0 0 h]
end Go.Proofs.YtfkcpaahdlkcdaaGreat
namespace Go.Proofs.YtfkcpaahdlkcdaaGreat
open Go.RowKit
section
variable {P:Program} (w:World)
theorem zYD (t tx ty e:TypeId) (i:TypeInfo) (ht:P.underlying t=some (.slice e)) (hi:P.info? e=some i)
    (g sLen sCap:Nat) (cur:Array Value) (hg:w.heap[g]? = some (.cells cur e (0,0)))
    (x:Value) (m:Nat) (news:List Value) (hs:Src P i.size tx x m news w)
    (hroom:sLen+m≤sCap) (hfit:sLen*i.size+news.length≤cur.size) :
    (Builtin.append_ #[t,tx] ty #[.slice (some ⟨g,0,none⟩) sLen sCap,x]).run P w =
     .ok (.slice (some ⟨g,0,none⟩) (sLen+m) sCap) (w.setRow g (cur.toList.take (sLen*i.size)++news++cur.toList.drop (sLen*i.size+news.length)).toArray):=by
 have hst:=run_storeCells_at P g (sLen*i.size) e news 0 cur w hg (by simpa using hfit) hs.one
 simp only [Nat.add_zero] at hst
 rcases hs.kind with ⟨e',hk⟩ | hk <;> simp [Builtin.append_,run_underlying ht,run_underlying hk,sizeOf,typeInfo,hi,hs.len,hroom,hs.cells,Addr.add_lit,hst]
theorem zaH (base:Nat) (t tx ty e:TypeId) (i:TypeInfo) (z:Value) (size bytes:Nat) (ht:P.underlying t=some (.slice e)) (hi:P.info? e=some i) (hz:i.zero=some z)
    (hsize:i.size=size) (hby:i.bytes=bytes) (hzs:z.cells.size=size)
    (v:Value) (n:Nat) (xs:List Value) (hown:w.ownsRow base e size v n xs)
    (x:Value) (m:Nat) (news:List Value) (hs:Src P size tx x m news w)
    (h63:n+m≤maxLen) (hbytes:(n+m)*bytes≤140737488355328) (hbase:base≤w.heap.size) :
    ∃ v' w',(Builtin.append_ #[t,tx] ty #[v,x]).run P w=.ok v' w'∧w'.ownsRow base e size v' (n+m) (xs++news)∧w.grownBy w' v.ownBlock ∧
     (v'.ownBlock=v.ownBlock∨v'.ownBlock=some w.heap.size)∧(v'=.slice none 0 0↔v=.slice none 0 0∧m=0):=by
 subst hsize
 subst hby
 have hsmall:n+m≤9223372036854775807:=by simp only [maxLen] at h63;omega
 have hl:=hs.newsLen
 have hlen:(xs++news).length=(n+m)*i.size:=by rw [List.length_append,hown.1,hl,Nat.add_mul]
 have grown : ∀ (old : Nat), old < n + m → ∀ (row : Option Nat),
     (w.drew.alloc (.cells ((xs++news).toArray++Builtin.zeroCells z.cells (grownCap w (n+m) old e-(n+m))) e)).ownsRow base e i.size
      (.slice (some ⟨w.heap.size,0,none⟩) (n+m) (grownCap w (n+m) old e)) (n+m) (xs++news) ∧
     w.grownBy (w.drew.alloc (.cells ((xs++news).toArray++Builtin.zeroCells z.cells (grownCap w (n+m) old e-(n+m))) e)) row:=by
  intro old ho row
  have hge:=grownCap_ge w (n+m) old e
  have hcm:grownCap w (n+m) old e≤maxLen:=grownCap_le_maxLen w (n+m) old e h63
  refine ⟨⟨hlen,.inr ⟨w.heap.size,_,_,rfl,hbase,heap_alloc_new w.drew _,hge,hcm,?_,?_⟩⟩,⟨rfl,rfl,rfl,by simp,fun k hk _=>Below.heap_alloc w.drew _ k hk⟩⟩
  ·rw [Array.size_append,List.size_toArray,size_zeroCells,hzs,hlen,← Nat.add_mul]
   congr 1
   omega
  ·rw [Array.toList_append,← hlen]
   exact List.take_left
 rcases hown.2 with ⟨rfl,rfl⟩ | ⟨g,cap,cur,rfl,hbg,hg,hnc,hcm,hcs,htake⟩
 ·have hx:xs=[]:=List.eq_nil_of_length_eq_zero (by simpa using hown.1)
  subst hx
  by_cases hm:m=0
  ·subst hm
   have hn:news=[]:=List.eq_nil_of_length_eq_zero (by simpa using hl)
   subst hn
   refine ⟨.slice none 0 0,w,?_,World.ownsRow_nil w base e i.size,⟨rfl,rfl,rfl,Nat.le_refl _,fun _ _ _=>rfl⟩,.inl rfl,by simp⟩
   rcases hs.kind with ⟨e',hk⟩ | hk <;> simp [Builtin.append_,run_underlying ht,run_underlying hk,sizeOf,typeInfo,hi,hs.len,hs.cells]
  ·have hr:=run_append_grow_src (P:=P) w t tx ty e i z ht hi hz none 0 0 [] (run_firstCells_none w.drew i.size 0 0 0) x m news hs (by omega) (by omega) (growslice_fits (by omega) hbytes)
   have hgr:=grown 0 (by omega) (Value.ownBlock (.slice none 0 0))
   exact ⟨_,_,hr,hgr.1,hgr.2,.inr rfl,by simp [hm]⟩
 ·by_cases hroom:n+m≤cap
  ·have hfit:n*i.size+news.length≤cur.size:=by rw [hl,hcs,← Nat.add_mul];exact Nat.mul_le_mul_right _ hroom
   have hr:=zYD (P:=P) w t tx ty e i ht hi g n cap cur hg x m news hs hroom hfit
   refine ⟨_,_,hr,⟨hlen,.inr ⟨g,cap,_,rfl,hbg,setRow_heap w g cur _ e _ hg,hroom,hcm,?_,?_⟩⟩,⟨rfl,rfl,rfl,by simp,fun k _ hk=>setRow_other w g k _ (fun e=>hk (by simp [Value.ownBlock,e]))⟩,.inl rfl,by simp⟩
   ·simp only [List.size_toArray,List.length_append,List.length_take,List.length_drop,Array.length_toList]
    omega
   ·rw [htake,← hlen]
    exact List.take_left
  ·have holds:∀ j u,xs[j]? = some u→w.cell? ((⟨g,0,none⟩:Addr).add j)=some u:=hown.cells (g:=g) rfl
   have hr:=run_append_grow_src (P:=P) w t tx ty e i z ht hi hz (some ⟨g,0,none⟩) n cap xs (run_firstCells_some w.drew i.size n ⟨g,0,none⟩ n cap xs hown.1 (by simpa using holds)) x m news hs (by omega) (by omega) (growslice_fits (by omega) hbytes)
   have hgr:=grown cap (by omega) (Value.ownBlock (.slice (some ⟨g,0,none⟩) n cap))
   exact ⟨_,_,hr,hgr.1,hgr.2,.inr rfl,by simp⟩
structure Apped (base e size:Nat) (v v':Value) (n:Nat) (xs:List Value) (w w':World) (isNil:Prop):Prop where
 own:w'.ownsRow base e size v' n xs
 grew:w.grownBy w' v.ownBlock
 at_:v'.ownBlock=v.ownBlock∨v'.ownBlock=some w.heap.size
 nil:v'=.slice none 0 0↔isNil
theorem zqI {o:Oper} {a:Act} {K:Act→World→Prop} {Q:Exit→Act→World→Prop} (s x:Operand) (t tx:TypeId)
    (ho:o.op=.call { callee:=.builtin .append,args:=#[s,x],argTypes:=#[t,tx] })
    (base:Nat) (e:TypeId) (z:Value) (size bytes:Nat) (ht:P.underlying t=some (.slice e)) (hinfo:(P.info? e).map (fun i=>(i.zero,i.size,i.bytes))=some (some z,size,bytes))
    (hzs:z.cells.size=size)
    (v:Value) (n:Nat) (xs:List Value) (hv:a.eval s=v)
    (xv:Value) (m:Nat) (news:List Value) (hx:a.eval x=xv)
    (h:∀ v' w',Apped base e size v v' (n+m) (xs++news) w w' (v=.slice none 0 0∧m=0)→K (a.put o.dst v') w')
    (hown:w.ownsRow base e size v n xs) (hs:Src P size tx xv m news w)
    (h63:n+m≤maxLen) (hbytes:(n+m)*bytes≤140737488355328) (hbase:base≤w.heap.size):o.wp P a w K Q:=by
 obtain ⟨i,hi,h1,h2,h3⟩:=info_parts hinfo
 obtain ⟨v',w',hr,g1,g2,g3,g4⟩:=zaH (P:=P) w base t tx o.type e i z size bytes ht hi h1 h2 h3 hzs v n xs hown xv m news hs h63 hbytes hbase
 unfold Oper.wp execOp
 simp only [ho,resolve,invoke,builtin,Sem.run_bind,Sem.run_pure,Result.andThen_ok,List.map_toArray,List.map_cons,List.map_nil,hv,hx,hr]
 exact h v' w' ⟨g1,g2,g3,g4⟩
theorem zL {ops:Array Oper} {rest:List Oper} {o:Oper} {a:Act} {Q:Exit→Act→World→Prop} (hgd:o.guard=none) (s x:Operand) (t tx:TypeId)
    (ho:o.op=.call { callee:=.builtin .append,args:=#[s,x],argTypes:=#[t,tx] })
    (base:Nat) (e:TypeId) (z:Value) (size bytes:Nat) (ht:P.underlying t=some (.slice e)) (hinfo:(P.info? e).map (fun i=>(i.zero,i.size,i.bytes))=some (some z,size,bytes))
    (hzs:z.cells.size=size)
    (v:Value) (n:Nat) (xs:List Value) (hv:a.eval s=v)
    (xv:Value) (m:Nat) (news:List Value) (hx:a.eval x=xv)
    (h:∀ v' w',Apped base e size v v' (n+m) (xs++news) w w' (v=.slice none 0 0∧m=0)→wpList P ops Q rest (a.put o.dst v') w')
    (hown:w.ownsRow base e size v n xs) (hs:Src P size tx xv m news w)
    (h63:n+m≤maxLen) (hbytes:(n+m)*bytes≤140737488355328) (hbase:base≤w.heap.size):wpList P ops Q (o :: rest) a w :=
 wpList_plain hgd fun _ hK=>zqI w s x t tx ho base e z size bytes ht hinfo hzs v n xs hv xv m news hx (fun v' w' h2=>hK _ _ (h v' w' h2)) hown hs h63 hbytes hbase
theorem zKK {ops:Array Oper} {o:Oper} {a:Act} {K:Act→World→Prop} {Q:Exit→Act→World→Prop} {E:Prop} (hgd:o.guard=none) (s x:Operand) (t tx:TypeId)
    (ho:o.op=.call { callee:=.builtin .append,args:=#[s,x],argTypes:=#[t,tx] })
    (base:Nat) (e:TypeId) (z:Value) (size bytes:Nat) (ht:P.underlying t=some (.slice e)) (hinfo:(P.info? e).map (fun i=>(i.zero,i.size,i.bytes))=some (some z,size,bytes))
    (hzs:z.cells.size=size)
    (v:Value) (n:Nat) (xs:List Value) (hv:a.eval s=v)
    (xv:Value) (m:Nat) (news:List Value) (hx:a.eval x=xv)
    (h:∀ v' w',Apped base e size v v' (n+m) (xs++news) w w' (v=.slice none 0 0∧m=0)→K (a.put o.dst v') w')
    (hown:w.ownsRow base e size v n xs) (hs:Src P size tx xv m news w)
    (h63:n+m≤maxLen) (hbytes:(n+m)*bytes≤140737488355328) (hbase:base≤w.heap.size) :
    if Region.wanted o (yielded ops a.tmps)=true then Oper.wp P o a w K Q else E:=by
 have hw:Region.wanted o (yielded ops a.tmps)=true:=by simp [Region.wanted,hgd]
 rw [if_pos hw]
 exact zqI w s x t tx ho base e z size bytes ht hinfo hzs v n xs hv xv m news hx h hown hs h63 hbytes hbase
end
def Cells (w:World) (A:Option Addr) (vs:List Value):Prop:=∀ j u,vs[j]? = some u→∃ ad,A=some ad∧w.cell? (ad.add j)=some u
def SliceR (size:Nat) (v:Value) (n:Nat) (vs:List Value) (w:World):Prop:=∃ A c,v=.slice A n c∧n≤c∧vs.length=n*size∧(A=none→c=0)∧Cells w A vs
theorem SliceR.src {P:Program} {size tx e':Nat} {v:Value} {n:Nat} {vs:List Value} {w:World} (h:SliceR size v n vs w) (hk:P.underlying tx=some (.slice e')) (h1:∀ u∈vs,u.oneCell'=true):Src P size tx v n vs w:=by
 obtain ⟨A,c,rfl,hl,hv,hA,hc⟩:=h
 cases A with
 | none =>
  have h0:n=0:=by have:=hA rfl;omega
  subst h0
  have:vs=[]:=List.eq_nil_of_length_eq_zero (by simpa using hv)
  subst this
  exact Src.ofNil w hk c
 | some ad =>
  refine Src.ofSlice w hk ad n c vs hv (fun j u hu=>?_) h1
  obtain ⟨ad',e,hc'⟩:=hc j u hu
  injection e with e
  subst e
  exact hc'
theorem SliceR.of_own {base e size:Nat} {v:Value} {n:Nat} {vs:List Value} {w:World} (h:w.ownsRow base e size v n vs):SliceR size v n vs w:=by
 rcases h.2 with ⟨rfl,rfl⟩ | ⟨g,cap,cur,rfl,hbg,hg,hnc,hcm,hcs,htake⟩
 ·exact ⟨none,0,rfl,Nat.le_refl _,h.1,fun _=>rfl,fun j u hu=>by
    have hv:vs=[]:=List.eq_nil_of_length_eq_zero (by simpa using h.1)
    rw [hv] at hu
    simp at hu⟩
 ·exact ⟨_,cap,rfl,hnc,h.1,fun e=>(by cases e),fun j u hu=>⟨⟨g,0,none⟩,rfl,h.cells (g:=g) rfl j u hu⟩⟩
theorem zrI (a:Addr) (n:Nat):(a.add n).block=a.block:=by unfold Addr.add;split <;> rfl
theorem Cells.keep {S:Nat→Prop} {w w':World} {A:Option Addr} {vs:List Value} (h:Cells w A vs) (hk:Keep S w w') (hS:∀ ad,A=some ad→¬ S ad.block):Cells w' A vs:=fun j u hu=>by
 obtain ⟨ad,e,hc⟩:=h j u hu
 exact ⟨ad,e,hk.cell hc (by rw [zrI];exact hS ad e)⟩
theorem Cells.grow {w w':World} {A:Option Addr} {vs:List Value} (h:Cells w A vs) (hk:Grow w w'):Cells w' A vs:=h.keep hk (fun _ _ hf=>hf)
theorem SliceR.grow {size:Nat} {v:Value} {n:Nat} {vs:List Value} {w w':World} (h:SliceR size v n vs w) (hk:Grow w w'):SliceR size v n vs w':=by
 obtain ⟨A,c,h1,h2,h3,h4,h5⟩:=h
 exact ⟨A,c,h1,h2,h3,h4,h5.grow hk⟩
theorem Cells.old {S:Nat→Prop} {w w':World} {A:Option Addr} {vs:List Value} {B:Nat} (h:Cells w A vs) (hk:Keep S w w') (hA:∀ ad,A=some ad→ad.block<B) (hS:∀ k,S k→B≤k):Cells w' A vs :=
 h.keep hk (fun ad e hs=>absurd (hA ad e) (Nat.not_lt.2 (hS _ hs)))
theorem SliceR.of_block {size n c g T:Nat} {cs:Array Value} {fr:Nat×Nat} {w:World} (h:w.heap[g]? = some (.cells cs T fr)) (hn:n≤c) (hs:cs.size=n*size):SliceR size (.slice (some ⟨g,0,none⟩) n c) n cs.toList w :=
 ⟨_,c,rfl,hn,by simpa using hs,(fun e=>by cases e),fun j u hu=>⟨_,rfl,World.news_of_block h j u hu⟩⟩
theorem zK {base e size n:Nat} {v:Value} {xs:List Value} {w:World} (h:w.ownsRow base e size v n xs):∃ A c,v=.slice A n c∧n≤c∧(∀ k,v.ownBlock=some k→A=some ⟨k,0,none⟩)∧(A=none→n=0∧c=0):=by
 rcases h.2 with ⟨rfl,rfl⟩ | ⟨g,cap,cur,rfl,hg,hh,hn,r⟩
 ·exact ⟨none,0,rfl,Nat.le_refl _,by simp [Value.ownBlock],fun _=>⟨rfl,rfl⟩⟩
 ·exact ⟨_,cap,rfl,hn,by simp [Value.ownBlock],by simp⟩
theorem zF {base e size n:Nat} {v:Value} {xs:List Value} {S:Nat→Prop} {w w':World} (h:w.ownsRow base e size v n xs) (hk:Keep S w w') (hd:∀ k,v.ownBlock=some k→¬ S k):w'.ownsRow base e size v n xs:=by
 refine ⟨h.1,?_⟩
 rcases h.2 with h2 | ⟨g,cap,cur,rfl,hg,hh,r⟩
 ·exact .inl h2
 ·exact .inr ⟨g,cap,cur,rfl,hg,(hk.block g (gE hh).1 (hd g (by simp [Value.ownBlock]))).trans hh,r⟩
theorem zsI {base e size n:Nat} {v:Value} {xs:List Value} {w:World} (h:w.ownsRow base e size v n xs):w.ownsRow 0 e size v n xs:=by
 refine ⟨h.1,?_⟩
 rcases h.2 with h2 | ⟨g,cap,cur,rfl,hg,r⟩
 ·exact .inl h2
 ·exact .inr ⟨g,cap,cur,rfl,Nat.zero_le _,r⟩
theorem cell0 {w:World} {g T:Nat} {v:Value} (h:w.heap[g]? = some (.cells #[v] T (0,0))):w.cell? ⟨g,0,none⟩=some v:=by
 rw [cell_of_row w g 0 _ _ _ h]
 rfl
theorem zN {w:World} {g T:Nat} {cs:Array Value} (o:Nat) (h:w.heap[g]? = some (.cells cs T (0,0))):w.frozen? ⟨g,o,none⟩=false:=by
 simp [World.frozen?,h]
theorem Foot.of_own {base e size n:Nat} {v:Value} {xs:List Value} {w:World} (h:w.ownsRow base e size v n xs):Foot (SliceR size v n xs) w (fun k=>v.ownBlock=some k):=by
 refine ⟨fun k hk=>(h.lt k hk).2,fun W' hW=>SliceR.of_own (base:=base) (e:=e) ?_⟩
 refine ⟨h.1,?_⟩
 rcases h.2 with h2 | ⟨g,cap,cur,rfl,hg,hh,r⟩
 ·exact .inl h2
 ·exact .inr ⟨g,cap,cur,rfl,hg,(hW g (by simp [Value.ownBlock])).trans hh,r⟩
theorem zZD {w:World} {g T:Nat} {v:Value} (u:Value) (h:w.heap[g]? = some (.cells #[v] T (0,0))):(w.setCell ⟨g,0,none⟩ u).heap[g]? = some (.cells #[u] T (0,0)):=by
 simp only [World.setCell,Array.getElem?_modify]
 simp [h]
theorem zu {base e size n:Nat} {v v':Value} {xs:List Value} {w w':World} {p:Prop} (h:Apped base e size v v' n xs w w' p):∀ k,v'.ownBlock=some k→v.ownBlock=some k∨k=w.heap.size:=fun k hk=>by
 rcases h.at_ with h | h
 ·exact .inl (h ▸ hk)
 ·rw [h] at hk
  exact .inr (Option.some.inj hk).symm
end Go.Proofs.YtfkcpaahdlkcdaaGreat
namespace Go.Proofs.YtfkcpaahdlkcdaaGreat
open Go.RowKit
theorem zz:(Tryz.prog.info? 5).map (fun i=>(i.zero,i.size,i.bytes))=some (some (.int .u8 0),1,1):=by kernel_rfl
theorem zW:Tryz.prog.underlying 23=some (.slice 5):=by kernel_rfl
abbrev u8s (l:List Int):List Value:=l.map (Value.int .u8)
theorem zJB (l:List Int):∀ u∈u8s l,u.oneCell'=true:=by
 intro u hu
 obtain ⟨x,_,rfl⟩:=List.mem_map.1 hu
 rfl
theorem zlB (v:Value) (l:List Int) (w:World) (h:SliceR 1 v l.length (u8s l) w) (hl:l.length≤140737488355328) :
    Calls Tryz.prog 167 #[v] w fun e w'=>∃ A c,e=.returned (.slice A l.length c)∧w'.ownsRow w.heap.size 5 1 (.slice A l.length c) l.length (u8s l)∧Grow w w':=by
 have Hs:=LH ((h.grow ((Keep.refl _ _).alloc (.cells #[] 5))).src zW (zJB l))
 have HL:=LH hl
 clear hl
 have hq:=zVE zW
 obtain ⟨A,c,rfl,hlc,_,hA,_⟩:=h
 cases A with
 | none =>
  have h0:l=[]:=List.eq_nil_of_length_eq_zero (by have:=hA rfl;omega)
  subst h0
  go_enter Tryz.func167,Tryz.ntmps167
  go_wp2
  go_ret
  exact ⟨none,0,rfl,World.ownsRow_nil _ _ _ _,Keep.refl _ _⟩
 | some ad =>
  go_enter Tryz.func167,Tryz.ntmps167
  go_wp2_with (at_builtin;refine zL _ rfl _ _ 23 23 rfl w.heap.size 5 (.int .u8 0) 1 1 zW zz rfl (.slice (some ⟨w.heap.size,0,none⟩) 0 0) 0 [] rfl (.slice (some ad) l.length c) l.length (u8s l) rfl ?_ ?c0 ?c1 ?c2 ?c3 ?c4;intro v' w' hap)
  case c0=>exact World.ownsRow_made w #[] 0 (Nat.le_refl _) (by simp [maxLen]) rfl
  case c1=>exact Hs.out
  case c2=>have:=HL.out;simp only [maxLen];omega
  case c3=>have:=HL.out;omega
  case c4=>simp
  have ho:=hap.own
  simp only [Nat.zero_add,List.nil_append] at ho
  have hg:=((Keep.refl NoB w).alloc (.cells #[] 5)).grown hap.grew (by simp [Value.ownBlock])
  clear hap
  obtain ⟨A,c2,rfl,_⟩:=zK ho
  go_wp2
  go_ret
  exact ⟨_,_,rfl,ho,hg⟩
theorem zMA {base e size n:Nat} {v:Value} {xs:List Value} {w:World} (h:w.ownsRow base e size v n xs) (h0:0<n):∃ r c,v=.slice (some ⟨r,0,none⟩) n c∧v.ownBlock=some r∧n≤c∧∀ j u,xs[j]? = some u→w.cell? ⟨r,0+j,none⟩=some u:=by
 rcases h.2 with ⟨rfl,rfl⟩ | ⟨g,cap,cur,rfl,hg,hh,hn,r⟩
 ·omega
 ·refine ⟨g,cap,rfl,rfl,hn,fun j u hj=>?_⟩
  have:=h.cells (g:=g) rfl j u hj
  rwa [show (⟨g,0,none⟩:Addr).add j=⟨g,0+j,none⟩ from Addr.add_lit ..] at this
end Go.Proofs.YtfkcpaahdlkcdaaGreat

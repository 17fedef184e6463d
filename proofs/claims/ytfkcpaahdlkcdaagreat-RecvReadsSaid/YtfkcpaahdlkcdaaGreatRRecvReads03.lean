import Derived.Test.YtfkcpaahdlkcdaaGreatRRecvReads02
set_option linter.unusedSimpArgs false
set_option linter.unusedVariables false
set_option maxRecDepth 100000
set_option maxHeartbeats 16000000
namespace Go.Proofs.YtfkcpaahdlkcdaaGreat
open Go.RowKit
theorem zZF {a:List (List Int)} (h:OkA a):∀ x∈szs a,0≤x∧x≤100000:=by
 intro x hx
 obtain ⟨s,hs,rfl⟩:=List.mem_map.1 hx
 have:=h.words s hs
 omega
theorem zbD (a:List (List Int)) (v:Value) (w:World) (h:RowsR .u64 a v w) (ha:OkA a) :
    Calls Tryz.prog 132 #[v] w fun e w'=>e=.returned (.bool (fitsB (szs a)))∧Grow w w':=by
 obtain ⟨A,n,rfl⟩:=h.slice
 have H:=LH h
 have HA:=LH ha
 clear h ha
 go_enter Tryz.func132,Tryz.ntmps132
 go_wp2_with fail
 refine (zyB a _ w H.out HA.out.segs).mono ?_
 rintro e w1 ⟨A1,c1,rfl,hg,ho⟩
 have Hg:=LH hg
 have Ho:=LH (SliceR.of_own ho)
 clear hg ho
 go_wp2_with fail
 refine (zhB A1 c1 (szs a) w1 Ho.out (fun x hx=>by have:=zZF HA.out x hx;omega)).mono ?_
 rintro e w' ⟨rfl,rfl⟩
 go_wp2
 go_ret
 exact ⟨rfl,Hg.out⟩
def withinB (l:List Int) (seg at_ n:Int):Bool:=decide (0≤seg∧seg<l.length∧0≤at_∧0≤n∧at_+n≤l.getD seg.toNat 0)
theorem zlC (A:Option Addr) (c:Nat) (l:List Int) (w:World) (h:SliceR 1 (.slice A l.length c) l.length (ints l) w) (hb:∀ x∈l,0≤x∧x≤100000) (seg at_ n:Int) (hat : -9223372036854775808≤at_) :
    Calls Tryz.prog 275 #[.slice A l.length c,.int .i64 seg,.int .i64 at_,.int .i64 n] w fun e w'=>e=.returned (.bool (withinB l seg at_ n))∧w=w':=by
 have H:=LH h
 have HB:=LH hb
 clear h hb
 by_cases h0:seg<0
 ·have HF:Hid (withinB l seg at_ n=false):=decide_eq_false (fun ⟨g,_⟩=>by omega)
  go_enter Tryz.func275,Tryz.ntmps275
  go_wp2
  go_ret
  exact ⟨by rw [HF.out];rfl,rfl⟩
 by_cases h1:(l.length:Int)≤seg
 ·have HF:Hid (withinB l seg at_ n=false):=decide_eq_false (fun ⟨_,g,_⟩=>by omega)
  go_enter Tryz.func275,Tryz.ntmps275
  go_wp2
  go_ret
  exact ⟨by rw [HF.out];rfl,rfl⟩
 obtain ⟨k,rfl⟩:∃ k:Nat,seg=k:=⟨seg.toNat,by omega⟩
 have hk:k<l.length:=by omega
 obtain ⟨ad,rfl,q0⟩:=SliceR.int_at (k:=.i64) H.out k hk
 have hb:=HB.out _ (List.getElem_mem hk)
 have hgd:l.getD k 0=l[k]:=by simp [List.getD_eq_getElem?_getD,List.getElem?_eq_getElem hk]
 have hk':(k:Int)<l.length:=by omega
 by_cases hok:0≤at_∧0≤n∧at_+n≤l[k]
 ·have HF:Hid (withinB l k at_ n=true):=decide_eq_true ⟨by omega,by omega,hok.1,hok.2.1,by rw [Int.toNat_natCast,hgd];exact hok.2.2⟩
  have hb2:=hb.2
  obtain ⟨o1,o2,o3⟩:=hok
  clear hgd hb
  go_enter Tryz.func275,Tryz.ntmps275
  go_wp2_with fail
  refine (zbH at_ n l[k] w o1 o2 (by omega) (by omega) (by omega)).mono ?_
  rintro e w' ⟨rfl,rfl⟩
  go_wp2
  go_ret
  exact ⟨by rw [HF.out];rfl,rfl⟩
 ·have HF:Hid (withinB l k at_ n=false):=decide_eq_false (fun ⟨_,_,g1,g2,g3⟩=>hok ⟨g1,g2,by rw [Int.toNat_natCast,hgd] at g3;exact g3⟩)
  have hno:at_<0∨n<0∨l[k]<at_∨l[k]-at_<n:=by omega
  have Hno:=LH hno
  clear hno
  have hb1:=hb.1
  have hb2:=hb.2
  clear hgd hb hok
  go_enter Tryz.func275,Tryz.ntmps275
  go_wp2_with fail
  refine (zvI at_ n l[k] w Hno.out hat hb1 (by omega)).mono ?_
  rintro e w' ⟨rfl,rfl⟩
  go_wp2
  go_ret
  exact ⟨by rw [HF.out];rfl,rfl⟩
def wordA (a:List (List Int)) (seg at_:Int):Int×Int :=
 if 0≤seg∧seg<a.length∧0≤at_∧at_<(a.getD seg.toNat []).length then ((a.getD seg.toNat []).getD at_.toNat 0,0) else (0,20)
theorem zmB {a:List (List Int)} {seg at_:Int} (h:¬ (0≤seg∧seg<a.length∧0≤at_∧at_<(a.getD seg.toNat []).length)):wordA a seg at_=(0,20):=if_neg h
theorem zxH (a:List (List Int)) (v:Value) (w:World) (h:RowsR .u64 a v w) (seg at_:Int) :
    Calls Tryz.prog 318 #[v,.int .i64 seg,.int .i64 at_] w fun e w'=>e=.returned (.tuple #[.int .u64 (wordA a seg at_).1,.int .u16 (wordA a seg at_).2])∧w=w':=by
 obtain ⟨A,n,rfl⟩:=h.slice
 have H:=LH h
 clear h
 by_cases h0:seg<0
 ·rw [zmB (fun ⟨g,_⟩=>by omega)]
  go_enter Tryz.func318,Tryz.ntmps318
  go_wp2
  go_ret2
  exact ⟨rfl,rfl⟩
 by_cases h1:(a.length:Int)≤seg
 ·rw [zmB (fun ⟨_,g,_⟩=>by omega)]
  go_enter Tryz.func318,Tryz.ntmps318
  go_wp2
  go_ret2
  exact ⟨rfl,rfl⟩
 by_cases h2:at_<0
 ·rw [zmB (fun ⟨_,_,g,_⟩=>by omega)]
  go_enter Tryz.func318,Tryz.ntmps318
  go_wp2
  go_ret2
  exact ⟨rfl,rfl⟩
 obtain ⟨k,rfl⟩:∃ k:Nat,seg=k:=⟨seg.toNat,by omega⟩
 obtain ⟨i,rfl⟩:∃ i:Nat,at_=i:=⟨at_.toNat,by omega⟩
 have hk:k<a.length:=by omega
 obtain ⟨ad,A',c',rfl,q0,hs⟩:=H.out.at_ k hk
 have hgd:a.getD k []=a[k]:=by simp [List.getD_eq_getElem?_getD,List.getElem?_eq_getElem hk]
 have hk':(k:Int)<a.length:=by omega
 by_cases hi:i<a[k].length
 ·have hi':(i:Int)<a[k].length:=by omega
  obtain ⟨ad2,rfl,q1⟩:=SliceR.int_at (k:=.u64) hs i hi
  have HF:Hid (wordA a k i=(a[k][i],0)):=by
   show _=_
   unfold wordA
   rw [if_pos ⟨by omega,by omega,by omega,by rw [Int.toNat_natCast,hgd];exact hi'⟩,Int.toNat_natCast,hgd,Int.toNat_natCast]
   simp [List.getD_eq_getElem?_getD,List.getElem?_eq_getElem hi]
  clear hgd hs h2
  go_enter Tryz.func318,Tryz.ntmps318
  go_wp2
  go_ret2
  rw [HF.out]
  exact ⟨rfl,rfl⟩
 ·have hi':(a[k].length:Int)≤i:=by omega
  have HF:Hid (wordA a k i=(0,20)):=zmB (fun ⟨_,_,_,g⟩=>by rw [Int.toNat_natCast,hgd] at g;omega)
  clear hgd hs h2
  go_enter Tryz.func318,Tryz.ntmps318
  go_wp2
  go_ret2
  rw [HF.out]
  exact ⟨rfl,rfl⟩
theorem zaF (a:List (List Int)) (v:Value) (w:World) (h:RowsR .u64 a v w) (ha:OkA a) :
    Calls Tryz.prog 316 #[.agg #[v]] w fun e w'=>∃ A c,e=.returned (.slice A (szs a).length c)∧Grow w w'∧SliceR 1 (.slice A (szs a).length c) (szs a).length (ints (szs a)) w':=by
 obtain ⟨A,n,rfl⟩:=h.slice
 have hw1:Grow w (w.alloc (.cells #[.slice A a.length n] 363)):=(Keep.refl _ _).alloc _
 have H:=LH (h.grow hw1)
 have Hw:=LH hw1
 have HA:=LH ha
 clear h ha hw1
 go_enter Tryz.func316,Tryz.ntmps316
 go_wp2_with fail
 refine (zyB a _ _ H.out HA.out.segs).mono ?_
 rintro e w1 ⟨A1,c1,rfl,hg,ho⟩
 have Hg:=LH hg
 have Ho:=LH (SliceR.of_own ho)
 clear hg ho
 go_wp2
 go_ret
 exact ⟨A1,c1,rfl,Hw.out.grow Hg.out,Ho.out⟩
theorem zjG (a:List (List Int)) (v:Value) (w:World) (h:RowsR .u64 a v w) (seg at_:Int) :
    Calls Tryz.prog 317 #[.agg #[v],.int .i64 seg,.int .i64 at_] w fun e w'=>e=.returned (.tuple #[.int .u64 (wordA a seg at_).1,.int .u16 (wordA a seg at_).2])∧Grow w w':=by
 obtain ⟨A,n,rfl⟩:=h.slice
 have hw1:Grow w (w.alloc (.cells #[.slice A a.length n] 363)):=(Keep.refl _ _).alloc _
 have H:=LH (h.grow hw1)
 have Hw:=LH hw1
 clear h hw1
 go_enter Tryz.func317,Tryz.ntmps317
 go_wp2_with fail
 refine (zxH a _ _ H.out seg at_).mono ?_
 rintro e w' ⟨rfl,rfl⟩
 go_wp2
 go_ret2
 exact ⟨rfl,Hw.out⟩
structure Sou (sv:Value) (sz:List Int) (wd:Int→Int→Int×Int) (w:World):Prop where
 out:∃ T pv fw fs r,sv=.iface T pv ∧
  (∀ w', (method 494 T pv "Word").run Tryz.prog w' = .ok (fw, r) w') ∧ (∀ w', (method 494 T pv "Sizes").run Tryz.prog w' = .ok (fs, r) w') ∧
  (∀ w' x y,(callFunc fw #[r,x,y]).run Tryz.prog w'=.ok (.enter fw #[r,x,y]) w')∧(∀ w',(callFunc fs #[r]).run Tryz.prog w'=.ok (.enter fs #[r]) w') ∧
  (∀ w',Grow w w'→∀ seg at_,Calls Tryz.prog fw #[r,.int .i64 seg,.int .i64 at_] w' fun e w2=>e=.returned (.tuple #[.int .u64 (wd seg at_).1,.int .u16 (wd seg at_).2])∧Grow w' w2) ∧
  (∀ w',Grow w w'→Calls Tryz.prog fs #[r] w' fun e w2=>∃ A c,e=.returned (.slice A sz.length c)∧Grow w' w2∧SliceR 1 (.slice A sz.length c) sz.length (ints sz) w2)
theorem zyH (v : Value) (w : World) : (method 494 363 (.agg #[v]) "Word").run Tryz.prog w = .ok (317, .agg #[v]) w := by kernel_rfl
theorem zkG (v : Value) (w : World) : (method 494 363 (.agg #[v]) "Sizes").run Tryz.prog w = .ok (316, .agg #[v]) w := by kernel_rfl
theorem Sou.grow {sv:Value} {sz:List Int} {wd:Int→Int→Int×Int} {w w':World} (h:Sou sv sz wd w) (hg:Grow w w'):Sou sv sz wd w':=by
 obtain ⟨T,pv,fw,fs,r,h1,h2,h3,k1,k2,h4,h5⟩:=h.out
 exact ⟨T,pv,fw,fs,r,h1,h2,h3,k1,k2,fun w2 hg2=>h4 w2 (hg.grow hg2),fun w2 hg2=>h5 w2 (hg.grow hg2)⟩
theorem zwI {a:List (List Int)} {v:Value} {w:World} (h:RowsR .u64 a v w) (ha:OkA a):Sou (.iface 363 (.agg #[v])) (szs a) (wordA a) w :=
 ⟨_,_,_,_,_,rfl,zyH v,zkG v,fun _ _ _=>by kernel_rfl,fun _=>by kernel_rfl,fun w' hg seg at_=>zjG a v w' (h.grow hg) seg at_,fun w' hg=>zaF a v w' (h.grow hg) ha⟩
theorem zlG (A:Option Addr) (n c:Nat) (w:World):Calls Tryz.prog 243 #[.slice A n c] w fun e w'=>e=.returned (.iface 363 (.agg #[.slice A n c]))∧w=w':=by
 go_enter Tryz.func243,Tryz.ntmps243
 go_wp2
 go_ret
 exact ⟨rfl,rfl⟩
end Go.Proofs.YtfkcpaahdlkcdaaGreat
namespace Go.Proofs.YtfkcpaahdlkcdaaGreat
open Go.RowKit
section
variable {P:Program} {ops:Array Oper} {Q:Exit→Act→World→Prop} {md:Region.Mode} {ds:List Nat} {l n:Nat}
theorem zKC {ops:Array Oper} {i:Nat} {o:Oper} {a:Act} {w w':World} {K:Act→World→Prop} {N:Option Tmp} (v:Value) (a':Act) (hl:ops.toList[i]? = some o) (hN:o.dst=N) (hg:o.guard=none) (hd:∀ c,o.op≠.defer c)
    (hy:(execOp a.eval o).run P w=.ok (.value v) w') (ha':a.put N v=a') (hK:K a' w'):wpOpIn (Fence.wide.inRound l) n P ops Q i K a w:=by
 have hi:ops[i]? = some o:=by simpa using hl
 subst hN
 subst ha'
 unfold wpOpIn
 rw [hi]
 simp only
 rw [if_pos (by simp [Region.wanted,hg])]
 refine ⟨fun _ _=>trivial,?_⟩
 rw [Oper.semAt_plain _ _ _ hd,hy]
 exact hK
theorem znF {ops:Array Oper} {i:Nat} {o:Oper} {a:Act} {w w':World} {K:Act→World→Prop} (hl:ops.toList[i]? = some o) (hN:o.dst=none) (hg:o.guard=none) (hd:∀ c,o.op≠.defer c)
    (hy:(execOp a.eval o).run P w=.ok .skip w') (hK:K a w'):wpOpIn (Fence.wide.inRound l) n P ops Q i K a w:=by
 have hi:ops[i]? = some o:=by simpa using hl
 unfold wpOpIn
 rw [hi]
 simp only
 rw [if_pos (by simp [Region.wanted,hg])]
 refine ⟨fun _ _=>trivial,?_⟩
 rw [Oper.semAt_plain _ _ _ hd,hy]
 rw [Oper.uponIn_skip,hN]
 exact hK
theorem zoF {ops:Array Oper} {i:Nat} {o:Oper} {a:Act} {w:World} {K:Act→World→Prop} {N:Option Tmp} {f:FuncId} {args:Array Value} (hl:ops.toList[i]? = some o) (hN:o.dst=N) (hg:o.guard=none) (hd:∀ c,o.op≠.defer c)
    (hy:(execOp a.eval o).run P w=.ok (.enter f args) w) (h:Calls P f args w fun e w'=>∃ v,e=.returned v∧K (a.put N v) w'):wpOpIn (Fence.wide.inRound l) n P ops Q i K a w:=by
 have hi:ops[i]? = some o:=by simpa using hl
 subst hN
 unfold wpOpIn
 rw [hi]
 simp only
 rw [if_pos (by simp [Region.wanted,hg])]
 refine ⟨fun _ _=>trivial,?_⟩
 rw [Oper.semAt_plain _ _ _ hd,hy,Oper.uponIn_enter]
 refine ⟨(fun hh=>by cases hh),CallsIn.inRound l (callsIn_wide.2 (h.mono ?_))⟩
 rintro e w' ⟨v,rfl,hk⟩
 exact hk
theorem zlD {ops:Array Oper} {i:Nat} {o:Oper} {a:Act} {w:World} {K:Act→World→Prop} {N:Option Tmp} (hl:ops.toList[i]? = some o) (hN:o.dst=N) (hgd:o.guard=none) (s x:Operand) (t tx:TypeId)
    (ho:o.op=.call { callee:=.builtin .append,args:=#[s,x],argTypes:=#[t,tx] })
    (base:Nat) (e:TypeId) (z:Value) (size bytes:Nat) (ht:P.underlying t=some (.slice e)) (hinfo:(P.info? e).map (fun i=>(i.zero,i.size,i.bytes))=some (some z,size,bytes))
    (hzs:z.cells.size=size)
    (v:Value) (m:Nat) (xs:List Value) (hv:a.eval s=v)
    (xv:Value) (k:Nat) (news:List Value) (hx:a.eval x=xv)
    (h:∀ v' w',Apped base e size v v' (m+k) (xs++news) w w' (v=.slice none 0 0∧k=0)→K (a.put N v') w')
    (hown:w.ownsRow base e size v m xs) (hs:Src P size tx xv k news w)
    (h63:m+k≤maxLen) (hbytes:(m+k)*bytes≤140737488355328) (hbase:base≤w.heap.size):wpOpIn (Fence.wide.inRound l) n P ops Q i K a w:=by
 obtain ⟨i0,hi,h1,h2,h3⟩:=info_parts hinfo
 obtain ⟨v',w',hr,g1,g2,g3,g4⟩:=zaH (P:=P) w base t tx o.type e i0 z size bytes ht hi h1 h2 h3 hzs v m xs hown xv k news hs h63 hbytes hbase
 refine zKC v' _ hl hN hgd (by rw [ho];intro c hc;cases hc) ?_ rfl (h v' w' ⟨g1,g2,g3,g4⟩)
 unfold execOp
 simp only [ho,resolve,invoke,builtin,Sem.run_bind,Sem.run_pure,Result.andThen_ok,List.map_toArray,List.map_cons,List.map_nil,hv,hx,hr]
end
end Go.Proofs.YtfkcpaahdlkcdaaGreat
namespace Go.Proofs.YtfkcpaahdlkcdaaGreat
open Go.RowKit Go.Shelf
attribute [local go_sem] Oper.semAt_some
theorem zO {fn:Func} {p:Tmp} {ty:TypeId} (h:fn.results=#[.cell p ty]) (tmps:Array Value) (P:Program) (w:World) :
    (results fn tmps).run P w=((asAddr (tmps.getD p undef)).run P w).andThen fun a w₁=>(loadVar ty a).run P w₁:=by
 simp only [results,h]
 simp [Sem.run_bind,Result.andThen]
end Go.Proofs.YtfkcpaahdlkcdaaGreat
namespace Go.Proofs.YtfkcpaahdlkcdaaGreat
open Go.RowKit Go.Shelf
attribute [local go_sem] Oper.semAt_some
def bitL (c:Nat):List Nat:=(List.range 8).filter (fun j=>c.testBit j)
def eachL (bs:List Int):List Nat:=(List.range bs.length).flatMap (fun k=>(bitL (bs.getD k 0).toNat).map (fun j=>k*8+j))
def eachT (bs:List Int) (k:Nat):List Nat:=(List.range k).flatMap (fun k=>(bitL (bs.getD k 0).toNat).map (fun j=>k*8+j))
theorem zJI (bs:List Int) (k:Nat):eachT bs (k+1)=eachT bs k++(bitL (bs.getD k 0).toNat).map (fun j=>k*8+j):=by
 simp [eachT,List.range_succ]
end Go.Proofs.YtfkcpaahdlkcdaaGreat
namespace Go.Proofs.YtfkcpaahdlkcdaaGreat
open Go.RowKit
structure It where
 b:Nat
 k:Int
 t:Int
def ptrs (n:Nat) (a:Nat→It):List Value:=(List.range n).map fun i=>.pointer (some ⟨(a i).b,0,none⟩)
end Go.Proofs.YtfkcpaahdlkcdaaGreat
namespace Go.Proofs.YtfkcpaahdlkcdaaGreat
def It.le (x y:It):Prop:=x.t<y.t∨x.t=y.t∧x.k≤y.k
theorem It.le_trans {x y z:It} (h:x.le y) (k:y.le z):x.le z:=by unfold It.le at *;omega
theorem It.le_refl (x:It):x.le x:=by unfold It.le;omega
end Go.Proofs.YtfkcpaahdlkcdaaGreat
namespace Go.Proofs.YtfkcpaahdlkcdaaGreat
open Go.RowKit
theorem u_int:Tryz.prog.underlying 3=some (.int .i64):=Tryz.underlying3
theorem zNJ:Maps.Keyed Tryz.prog 3:=Maps.int_keyed u_int
abbrev okI (k:Int):Prop:=(Lit.int .i64 k).wf=true
theorem zkL {k:Int} (h:okI k):keyOf Tryz.prog 3 (.int .i64 k)=some (.int .i64 k):=Maps.keyOf_int_mk u_int h
theorem isKey (k:Int):WideAt.IsKeyLit (.int .i64 k):=trivial
abbrev KT:Type:=Int×Int
end Go.Proofs.YtfkcpaahdlkcdaaGreat
namespace Go.Proofs.YtfkcpaahdlkcdaaGreat
open Go.ChangeShapes Go.WideShapes Go.ChangeAt Go.RowKit
open Go.Deep (intRow boolRow open_int_rows open_bools)
theorem SliceR.take {A:Option Addr} {n c m:Nat} {l:List Int} {w:World} (h:SliceR 1 (.slice A n c) n (u8s l) w) (hm:m≤n):SliceR 1 (.slice A m c) m (u8s (l.take m)) w:=by
 obtain ⟨A',c',e,h1,h2,h3,h4⟩:=h
 injection e with e1 e2 e3
 subst e1
 subst e3
 have hl:l.length=n:=by simpa using h2
 refine ⟨A,c,rfl,by omega,by simp;omega,h3,fun j u hu=>h4 j u ?_⟩
 rw [u8s,List.map_take,List.getElem?_take] at hu
 split at hu
 ·exact hu
 ·cases hu
theorem SliceR.cell {A:Option Addr} {n c:Nat} {vs:List Value} {w:World} (h:SliceR 1 (.slice A n c) n vs w) (i:Nat) (hi:i<vs.length):∃ ad,A=some ad∧w.cell? (ad.add i)=some vs[i]:=by
 obtain ⟨A',c',e,h1,h2,h3,h4⟩:=h
 injection e with e1 e2 e3
 subst e1
 exact h4 i _ (List.getElem?_eq_getElem hi)
theorem arg_ints {H:Type} {enc:TypeId×Value→H} {W:World} {held:Bool} {a:Option Addr} {len cap:Nat} {d:DataW H} {ps:List MemPlace} {ts:List TypeId} {ds:List (DataW H)} {j t e B:Nat} {k:IntKind}
    (hu:Tryz.prog.underlying t=some (.slice e)) (he:Tryz.prog.underlying e=some (.int k)) (hc1:Tryz.prog.cellsOf e=1) (hB:Tryz.prog.bytesOf e=B)
    (hsz:(DataW.weightsEach Tryz.prog ts ds).all (· ≤ reachBytes)=true) (ht:ts[j]? = some t) (hd:ds[j]? = some d)
    (h:DataW.Trod enc Tryz.prog W 0 (fun _=>true) held t (.slice a len cap) d ps) :
    ∃ l:List Int,SliceR 1 (.slice a l.length cap) l.length (l.map (Value.int k)) W∧l.length=len∧cap≤maxLen∧l.length*B≤140737488351232∧∀ x∈l,(Lit.int k x).wf=true:=by
 obtain ⟨fuel,hf⟩:=h
 rcases open_ints hu he hc1 hf with ⟨hcs,_⟩ | ⟨x,l,c,zs,hcs,_,hl,hm,hz,hx,hcell,hwz⟩
 ·simp [Value.cells] at hcs
  obtain ⟨rfl,rfl,rfl⟩:=hcs
  exact ⟨[],⟨none,0,rfl,Nat.le_refl _,rfl,fun _=>rfl,fun j u hu=>by simp at hu⟩,rfl,Nat.zero_le _,by simp,fun x hx=>by cases hx⟩
 ·simp [Value.cells] at hcs
  obtain ⟨rfl,rfl,rfl⟩:=hcs
  have hz':zs.length=cap:=by simpa using hz
  have hlen:(zs.take len).length=len:=by rw [List.length_take];omega
  obtain ⟨hx,_⟩:=Prod.mk.inj hx
  subst hx
  have z:=sized_slice hsz ht hd hu
  rw [hB] at z
  have h1:(lits (H:=H) k (zs.take len)).length+(lits (H:=H) k (zs.drop len)).length=zs.length:=by
   simp [lits]
   omega
  rw [h1] at z
  have h10:reachBytes=140737488351232:=by decide
  refine ⟨zs.take len,?_,hlen,hm,?_,fun x hx=>hwz x (List.mem_of_mem_take hx)⟩
  ·rw [hlen]
   refine ⟨some x,cap,rfl,hl,by simp;omega,(fun e=>by cases e),fun j u hu=>⟨x,rfl,?_⟩⟩
   have hj:j<len:=by
    rcases Nat.lt_or_ge j len with h | h
    ·exact h
    ·rw [List.getElem?_eq_none (by simp;omega)] at hu;cases hu
   rw [hcell j (by omega)]
   rw [List.getElem?_map,List.getElem?_take,if_pos hj] at hu
   rw [List.getD_eq_getElem?_getD]
   rw [List.getElem?_eq_getElem (by omega)] at hu ⊢
   simpa using hu
  ·rw [hlen,← h10]
   exact Nat.le_trans (Nat.mul_le_mul_right _ (by omega)) z
end Go.Proofs.YtfkcpaahdlkcdaaGreat

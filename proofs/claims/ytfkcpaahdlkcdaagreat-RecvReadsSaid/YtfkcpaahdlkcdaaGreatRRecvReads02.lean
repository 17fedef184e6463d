import Derived.Test.YtfkcpaahdlkcdaaGreatRRecvReads01
set_option linter.unusedSimpArgs false
set_option linter.unusedVariables false
set_option maxRecDepth 100000
set_option maxHeartbeats 16000000
namespace Go.Proofs.YtfkcpaahdlkcdaaGreat
open Go.RowKit
section
variable {P:Program} {ops:Array Oper} {Q:Exit→Act→World→Prop} {md:Region.Mode} {ds:List Nat}
def reachB (md:Region.Mode) (ops:Array Oper) (i:Nat):Nat→Nat→Bool
 | 0,_=>false
 | fuel+1,d=>match ops[d]? with
  | some o=>o.after.any fun e=>Region.binds md e&&(e.on==i||reachB md ops i fuel e.on)
  | none=>false
def closedB (md:Region.Mode) (ops:Array Oper) (listed:Array Bool):Bool :=
 (List.range ops.size).all fun j => !listed.getD j false||match ops[j]? with
  | some o=>o.after.all fun e => !Region.binds md e||listed.getD e.on false
  | none=>true
def ListedClosed (md:Region.Mode) (ops:Array Oper) (listed:Array Bool):Prop :=
 ∀ j oj,ops[j]? = some oj→listed.getD j false=true→∀ e∈oj.after,Region.binds md e=true→listed.getD e.on false=true
theorem zXF {listed:Array Bool} (h:closedB md ops listed=true):ListedClosed md ops listed:=by
 intro j oj hj hl e he hb
 have hlt:j<ops.size:=(gE hj).1
 have h1:=List.all_eq_true.1 h j (List.mem_range.2 hlt)
 simp only [hl,hj,Bool.not_true,Bool.false_or] at h1
 have h2:=Array.all_eq_true_iff_forall_mem.1 h1 e he
 simpa [hb] using h2
theorem ListedClosed.set {listed:Array Bool} {i:Nat} (h:ListedClosed md ops listed) (hi:i∈Region.ready md ops listed):ListedClosed md ops (listed.setIfInBounds i true):=by
 obtain ⟨_,oi,hoi,hall⟩:=mem_ready.1 hi
 intro j oj hj hl e he hb
 by_cases hij:i=j
 ·subst hij
  have:oj=oi:=Option.some.inj (hj.symm.trans hoi)
  subst this
  exact getD_set_true (hall e he hb)
 ·rw [getD_set_ne false hij] at hl
  exact getD_set_true (h j oj hj hl e he hb)
theorem zjC {listed:Array Bool} {i:Nat} (hc:ListedClosed md ops listed):∀ (fuel d:Nat),reachB md ops i fuel d=true→listed.getD d false=true→listed.getD i false=true
 | 0,_,h,_=>by simp [reachB] at h
 | fuel + 1, d, h, hl => by
  unfold reachB at h
  cases ho:ops[d]? with
  | none=>rw [ho] at h;simp at h
  | some o =>
   rw [ho] at h
   obtain ⟨e,he,h1⟩:=Array.any_eq_true'.1 h
   simp only [Bool.and_eq_true,Bool.or_eq_true,beq_iff_eq] at h1
   have hle:=hc d o ho hl e he h1.1
   rcases h1.2 with h2 | h2
   ·rw [← h2];exact hle
   ·exact zjC hc fuel e.on h2 hle
theorem zvD {listed:Array Bool} {i d fuel:Nat} (hc:ListedClosed md ops listed) (hr:reachB md ops i fuel d=true) (hun:listed.getD i true=false):d∉Region.ready md ops listed:=by
 intro hd
 obtain ⟨_,o,ho,hall⟩:=mem_ready.1 hd
 have hi:listed.getD i false=true:=by
  cases fuel with
  | zero=>simp [reachB] at hr
  | succ n =>
   unfold reachB at hr
   rw [ho] at hr
   obtain ⟨e,he,h1⟩:=Array.any_eq_true'.1 hr
   simp only [Bool.and_eq_true,Bool.or_eq_true,beq_iff_eq] at h1
   have hle:=hall e he h1.1
   rcases h1.2 with h2 | h2
   ·rw [← h2];exact hle
   ·exact zjC hc n e.on h2 hle
 rcases Nat.lt_or_ge i listed.size with h' | h'
 ·simp [h'] at hun hi
  rw [hun] at hi
  cases hi
 ·simp [Array.getElem?_eq_none h'] at hun
def wpAnyG (S:Nat→Prop) (P:Program) (md:Region.Mode) (ops:Array Oper) (Q:Exit→Act→World→Prop) (ds:List Nat):Nat→Array Bool→Act→World→Prop
 | 0,listed,a,w=>Region.ready md ops listed=[]∧Q .normal a w
 | fuel+1,listed,a,w =>
  (Region.ready md ops listed=[]→Q .normal a w) ∧
  ∀ i∈Region.ready md ops listed,wpOp P ops Q i (fun a' w'=>(i∉ds→Keep S w w')∧wpAnyG S P md ops Q ds fuel (listed.setIfInBounds i true) a' w') a w
variable {S:Nat→Prop}
theorem zMC:∀ (fuel:Nat) (listed:Array Bool) (a:Act) (w:World),wpAnyG S P md ops Q ds fuel listed a w→wpAny P md ops Q fuel listed a w
 | 0,_,_,_,h=>h
 | fuel+1,_,_,_,h=>⟨h.1,fun i hi=>wpOp_mono (fun a' w' h'=>zMC fuel _ a' w' h'.2) (h.2 i hi)⟩
theorem zYF {i:Nat} {oi:Oper} {v:Value} (hi:ops[i]? = some oi) (hsel:∀ (j:Nat) (o:Oper) cs b,ops[j]? = some o→o.op≠.select cs b)
    (hQ:∀ c a w,Q (.panic c) (a.put oi.dst v) w→Q (.panic c) a w) (n:Nat) :
    ∀ (fuel:Nat) (listed:Array Bool) (a:Act) (w:World),
     (∀ j oj,ops[j]? = some oj→j≠i→listed.getD j true=false→(∀ e∈oj.after,Region.binds md e=true→e.on≠i)→oi.apart ops oj=true) →
     ListedClosed md ops listed→(∀ d∈ds,listed.getD d true=false→reachB md ops i n d=true) →
     i∈Region.ready md ops listed→YieldsIf P ops (Keep S w) oi v a →
     wpAnyG S P md ops Q ds fuel (listed.setIfInBounds i true) (a.put oi.dst v) w→wpAnyG S P md ops Q ds (fuel+1) listed a w:=by
 intro fuel
 induction fuel with
 | zero =>
  intro listed a w _ _ _ hr hy H
  refine ⟨fun h=>(by rw [h] at hr;cases hr),fun j hj=>?_⟩
  by_cases hji:j=i
  ·subst hji;exact hy.wpOp hi (Keep.refl _ _) ⟨fun _=>Keep.refl _ _,H⟩
  ·have:=ready_mono hj hji
   rw [H.1] at this
   cases this
 | succ fuel ih =>
  intro listed a w hfree hc hd hr hy H
  refine ⟨fun h=>(by rw [h] at hr;cases hr),fun j hj=>?_⟩
  by_cases hji:j=i
  ·subst hji;exact hy.wpOp hi (Keep.refl _ _) ⟨fun _=>Keep.refl _ _,H⟩
  ·have h1:=H.2 j (ready_mono hj hji)
   obtain ⟨hjun,oj,hoj,hall⟩:=mem_ready.1 hj
   have hiun:=(mem_ready.1 hr).1
   have hnot:∀ e∈oj.after,Region.binds md e=true→e.on≠i:=fun e he hb heq=>by
    have h1:=hall e he hb
    rw [heq] at h1
    rcases Nat.lt_or_ge i listed.size with h' | h'
    ·simp [h'] at hiun h1;rw [hiun] at h1;cases h1
    ·simp [Array.getElem?_eq_none h'] at h1
   have hjd:j∉ds:=fun hm=>zvD hc (hd j hm hjun) hiun hj
   have h2:=wpOp_putIf hoj (hfree j oj hoj hji hjun hnot) (fun cs b=>hsel i oi cs b hi) (fun cs b=>hsel j oj cs b hoj) hQ hy h1
   have hfree':∀ k ok,ops[k]? = some ok→k≠i→(listed.setIfInBounds j true).getD k true=false →
       (∀ e∈ok.after,Region.binds md e=true→e.on≠i)→oi.apart ops ok=true:=fun k ok hk hki hun hno=>by
    refine hfree k ok hk hki ?_ hno
    by_cases hjk:j=k
    ·subst hjk;exact hjun
    ·rw [getD_set_ne true hjk] at hun;exact hun
   have hd':∀ d∈ds,(listed.setIfInBounds j true).getD d true=false→reachB md ops i n d=true:=fun d hm hun=>by
    refine hd d hm ?_
    by_cases hjk:j=d
    ·subst hjk;exact hjun
    ·rw [getD_set_ne true hjk] at hun;exact hun
   refine wpOp_mono (fun a' w' h3=>⟨h3.2.1,ih (listed.setIfInBounds j true) a' w' hfree' (hc.set hj) hd' (ready_mono hr (Ne.symm hji)) ?_ ?_⟩) h2
   ·exact h3.1.imp (fun hx=>⟨hx.1,fun w2 hw2=>hx.2 w2 ((h3.2.1 hjd).trans hw2 (fun _ h=>.inl h))⟩) id
   ·rw [Array.setIfInBounds_comm _ _ hji]
    exact h3.2.2
theorem ziG {i:Nat} {oi:Oper} {v:Value} (hi:ops[i]? = some oi) (hsel:∀ (j:Nat) (o:Oper) cs b,ops[j]? = some o→o.op≠.select cs b)
    (hQ:∀ c a w,Q (.panic c) (a.put oi.dst v) w→Q (.panic c) a w):
    ∀ (fuel:Nat) (listed:Array Bool) (a:Act) (w:World),
     (∀ j oj,ops[j]? = some oj→j≠i→listed.getD j true=false→(∀ e∈oj.after,Region.binds md e=true→e.on≠i)→oi.apart ops oj=true) →
     i∈Region.ready md ops listed→YieldsIf P ops (fun _=>True) oi v a →
     wpAnyG S P md ops Q ds fuel (listed.setIfInBounds i true) (a.put oi.dst v) w→wpAnyG S P md ops Q ds (fuel+1) listed a w:=by
 intro fuel
 induction fuel with
 | zero =>
  intro listed a w _ hr hy H
  refine ⟨fun h=>(by rw [h] at hr;cases hr),fun j hj=>?_⟩
  by_cases hji:j=i
  ·subst hji;exact hy.wpOp hi trivial ⟨fun _=>Keep.refl _ _,H⟩
  ·have:=ready_mono hj hji
   rw [H.1] at this
   cases this
 | succ fuel ih =>
  intro listed a w hfree hr hy H
  refine ⟨fun h=>(by rw [h] at hr;cases hr),fun j hj=>?_⟩
  by_cases hji:j=i
  ·subst hji;exact hy.wpOp hi trivial ⟨fun _=>Keep.refl _ _,H⟩
  ·have h1:=H.2 j (ready_mono hj hji)
   obtain ⟨hjun,oj,hoj,hall⟩:=mem_ready.1 hj
   have hiun:=(mem_ready.1 hr).1
   have hnot:∀ e∈oj.after,Region.binds md e=true→e.on≠i:=fun e he hb heq=>by
    have h1:=hall e he hb
    rw [heq] at h1
    rcases Nat.lt_or_ge i listed.size with h' | h'
    ·simp [h'] at hiun h1;rw [hiun] at h1;cases h1
    ·simp [Array.getElem?_eq_none h'] at h1
   have h2:=wpOp_putIf hoj (hfree j oj hoj hji hjun hnot) (fun cs b=>hsel i oi cs b hi) (fun cs b=>hsel j oj cs b hoj) hQ hy h1
   have hfree':∀ k ok,ops[k]? = some ok→k≠i→(listed.setIfInBounds j true).getD k true=false →
       (∀ e∈ok.after,Region.binds md e=true→e.on≠i)→oi.apart ops ok=true:=fun k ok hk hki hun hno=>by
    refine hfree k ok hk hki ?_ hno
    by_cases hjk:j=k
    ·subst hjk;exact hjun
    ·rw [getD_set_ne true hjk] at hun;exact hun
   refine wpOp_mono (fun a' w' h3=>⟨h3.2.1,ih (listed.setIfInBounds j true) a' w' hfree' (ready_mono hr (Ne.symm hji)) h3.1 ?_⟩) h2
   rw [Array.setIfInBounds_comm _ _ hji]
   exact h3.2.2
def ordOkC (md:Region.Mode) (ops:Array Oper) (acts reads ds:List Nat) (fin:Array Bool→Bool):List Nat→Array Bool→Bool
 | [],l=>fin l
 | i :: rest, l => (Region.ready md ops l).contains i && (if acts.contains i then Region.ready md ops l == [i] else
     Region.free md ops l i&&(!reads.contains i||closedB md ops l&&ds.all (fun d=>l.getD d true||reachB md ops i ops.size d)))&&ordOkC md ops acts reads ds fin rest (l.setIfInBounds i true)
abbrev ordOk (md:Region.Mode) (ops:Array Oper) (acts reads ds ord:List Nat) (l:Array Bool):Bool:=ordOkC md ops acts reads ds (fun l=>(Region.ready md ops l).isEmpty) ord l
def wpOrdC (S:Nat→Prop) (P:Program) (ops:Array Oper) (Q:Exit→Act→World→Prop) (R:Act→World→Prop) (acts reads ds:List Nat):List Nat→Act→World→Prop
 | [],a,w=>R a w
 | i :: rest, a, w => match ops[i]? with
  | none=>False
  | some o=>if acts.contains i then wpOp P ops Q i (fun a' w'=>(i∉ds→Keep S w w')∧wpOrdC S P ops Q R acts reads ds rest a' w') a w
   else ∃ v,YieldsIf P ops (if reads.contains i then Keep S w else fun _=>True) o v a∧(∀ c a w,Q (.panic c) (a.put o.dst v) w→Q (.panic c) a w)∧wpOrdC S P ops Q R acts reads ds rest (a.put o.dst v) w
abbrev wpOrd (S:Nat→Prop) (P:Program) (ops:Array Oper) (Q:Exit→Act→World→Prop) (acts reads ds:List Nat):List Nat→Act→World→Prop:=wpOrdC S P ops Q (fun a w=>Q .normal a w) acts reads ds
theorem zOA {acts reads:List Nat} {R:Act→World→Prop} {fin:Array Bool→Bool} {n:Nat} (hs:Region.noSelect ops=true) (hfin:∀ l a w,fin l=true→R a w→wpAnyG S P md ops Q ds n l a w):∀ (ord:List Nat) (l:Array Bool) (a:Act) (w:World),ordOkC md ops acts reads ds fin ord l=true→wpOrdC S P ops Q R acts reads ds ord a w→wpAnyG S P md ops Q ds (n+ord.length) l a w
 | [],l,a,w,hc,h=>by
  exact hfin l a w hc h
 | i :: rest, l, a, w, hc, h => by
  simp only [ordOkC,Bool.and_eq_true] at hc
  obtain ⟨⟨h1,h2⟩,h3⟩:=hc
  have hr:i∈Region.ready md ops l:=by simpa using h1
  unfold wpOrdC at h
  cases ho:ops[i]? with
  | none=>rw [ho] at h;exact h.elim
  | some o =>
   rw [ho] at h
   cases ha:acts.contains i with
   | true =>
    simp only [ha,if_true] at h h2
    have hr1:Region.ready md ops l=[i]:=by simpa using h2
    refine ⟨fun h0=>(by rw [hr1] at h0;cases h0),fun j hj=>?_⟩
    rw [hr1] at hj
    have:j=i:=by simpa using hj
    subst this
    exact wpOp_mono (fun a' w' h'=>⟨h'.1,zOA hs hfin rest _ a' w' h3 h'.2⟩) h
   | false =>
    simp only [ha,Bool.false_eq_true,if_false] at h h2
    simp only [Bool.and_eq_true] at h2
    obtain ⟨hf,h2⟩:=h2
    obtain ⟨v,hy,hQ,hk⟩:=h
    cases hrd:reads.contains i with
    | false =>
     simp only [hrd,Bool.false_eq_true,if_false] at hy
     exact ziG ho (Region.noSelect_spec hs) hQ _ l a w (Region.free_spec ho hf) hr hy (zOA hs hfin rest _ _ w h3 hk)
    | true =>
     simp only [hrd,if_true,Bool.not_true,Bool.false_or,Bool.and_eq_true] at hy h2
     refine zYF ho (Region.noSelect_spec hs) hQ ops.size _ l a w (Region.free_spec ho hf) (zXF h2.1) (fun d hm hun=>?_) hr hy (zOA hs hfin rest _ _ w h3 hk)
     have:=List.all_eq_true.1 h2.2 d hm
     rw [hun] at this
     simpa using this
theorem zaC {acts reads:List Nat} (hs:Region.noSelect ops=true) (ord:List Nat) (l:Array Bool) (a:Act) (w:World) (hc:ordOk md ops acts reads ds ord l=true) (h:wpOrd S P ops Q acts reads ds ord a w):wpAnyG S P md ops Q ds ord.length l a w:=by
 have:=zOA (n:=0) hs (fun l a w hl hq=>(⟨List.isEmpty_iff.1 hl,hq⟩:wpAnyG S P md ops Q ds 0 l a w)) ord l a w hc h
 rwa [Nat.zero_add] at this
theorem ze {id:Nat} {a:Act} {w:World} (S:Nat→Prop) (ord acts reads ds:List Nat) (hm:P.follows .mixedOrders=true)
    (hc:(Region.noSelect ops&&ordOk .any ops acts reads ds ord (Array.replicate ops.size false)&&(ord.length==ops.size))=true)
    (h:wpOrd S P ops Q acts reads ds ord a w.drew):(Code.region id ops true).wp P Q a w:=by
 simp only [Bool.and_eq_true,beq_iff_eq] at hc
 have:=zaC hc.1.1 ord _ a w.drew hc.1.2 h
 rw [hc.2] at this
 exact wp_region_any hm (zMC _ _ _ _ this)
theorem zE {id:Nat} {a:Act} {w:World} (ord acts reads ds:List Nat) (hm:P.follows .mixedOrders=true)
    (hc:(Region.noSelect ops&&ordOk .any ops acts reads ds ord (Array.replicate ops.size false)&&(ord.length==ops.size))=true)
    (h:wpOrd NoB P ops Q acts reads ds ord a w.drew):(Code.region id ops true).wp P Q a w:=ze NoB ord acts reads ds hm hc h
theorem zOB {id:Nat} {a:Act} {w:World} (S:Nat→Prop) (ord acts reads ds:List Nat) (l:Array Bool) (n:Nat) (hm:P.follows .mixedOrders=true)
    (hc:(Region.noSelect ops&&ordOkC .any ops acts reads ds (fun k=>k==l) ord (Array.replicate ops.size false)&&(n+ord.length==ops.size))=true)
    (h:wpOrdC S P ops Q (wpAnyG S P .any ops Q ds n l) acts reads ds ord a w.drew):(Code.region id ops true).wp P Q a w:=by
 simp only [Bool.and_eq_true,beq_iff_eq] at hc
 have:=zOA (n:=n) hc.1.1 (fun k a w hl hq=>by rw [beq_iff_eq.1 hl];exact hq) ord _ a w.drew hc.1.2 h
 rw [hc.2] at this
 exact wp_region_any hm (zMC _ _ _ _ this)
theorem zrA {md:Region.Mode} {a:Act} {w:World} {n:Nat} {l:Array Bool} (i j:Nat) (l1 l2:Array Bool) (hr:(Region.ready md ops l==[i,j]&&l.setIfInBounds i true==l1&&l.setIfInBounds j true==l2)=true)
    (h1:wpOrdC S P ops Q (wpAnyG S P md ops Q ds n l1) [i] [] ds [i] a w) (h2:wpOrdC S P ops Q (wpAnyG S P md ops Q ds n l2) [j] [] ds [j] a w):wpAnyG S P md ops Q ds (n+1) l a w:=by
 simp only [Bool.and_eq_true,beq_iff_eq] at hr
 obtain ⟨⟨hr,e1⟩,e2⟩:=hr
 refine ⟨fun h=>(by rw [hr] at h;cases h),fun k hk=>?_⟩
 have step:∀ k l',wpOrdC S P ops Q (wpAnyG S P md ops Q ds n l') [k] [] ds [k] a w→wpOp P ops Q k (fun a' w'=>(k∉ds→Keep S w w')∧wpAnyG S P md ops Q ds n l' a' w') a w:=fun k l' h=>by
  unfold wpOrdC at h
  cases ho:ops[k]? with
  | none=>rw [ho] at h;exact h.elim
  | some o =>
   rw [ho] at h
   simpa only [List.contains_cons,beq_self_eq_true,Bool.true_or,if_true,wpOrdC] using h
 rw [hr] at hk
 rcases (by simpa using hk:k=i∨k=j) with rfl | rfl
 ·rw [e1];exact step _ _ h1
 ·rw [e2];exact step _ _ h2
theorem zPA {md:Region.Mode} {a:Act} {w:World} {n:Nat} {l:Array Bool} (ord acts reads:List Nat) (hc:(Region.noSelect ops&&ordOk md ops acts reads ds ord l&&(ord.length==n))=true)
    (h:wpOrd S P ops Q acts reads ds ord a w):wpAnyG S P md ops Q ds n l a w:=by
 simp only [Bool.and_eq_true,beq_iff_eq] at hc
 have:=zaC hc.1.1 ord _ a w hc.1.2 h
 rwa [hc.2] at this
section
variable {S:Nat→Prop} {R:Act→World→Prop} {acts reads:List Nat} {rest:List Nat} {i:Nat} {o:Oper} {a:Act} {w:World}
theorem zD (h:R a w):wpOrdC S P ops Q R acts reads ds [] a w:=h
theorem zLK {N:Option Tmp} (hl:ops.toList[i]? = some o) (ha:acts.contains i=false) (hr:reads.contains i=false) (hN:o.dst=N) (hg:o.guard=none) (hQ:∀ v c a w,Q (.panic c) (a.put N v) w→Q (.panic c) a w) (v:Value) (a':Act)
    (hy:∀ w',(execOp a.eval o).run P w'=.ok (.value v) w') (ha':a.put N v=a') (h:wpOrdC S P ops Q R acts reads ds rest a' w):wpOrdC S P ops Q R acts reads ds (i :: rest) a w:=by
 have hi:ops[i]? = some o:=by simpa using hl
 subst ha'
 subst hN
 unfold wpOrdC
 rw [hi]
 simp only [ha,hr,Bool.false_eq_true,if_false,if_true]
 exact ⟨v,.inl ⟨by simp [Region.wanted,hg],fun w' _=>hy w'⟩,fun c a w=>hQ v c a w,h⟩
theorem zTB {N:Option Tmp} (hl:ops.toList[i]? = some o) (ha:acts.contains i=false) (hr:reads.contains i=true) (hN:o.dst=N) (hg:o.guard=none) (hQ:∀ v c a w,Q (.panic c) (a.put N v) w→Q (.panic c) a w) (v:Value) (a':Act)
    (hy:∀ w',Keep S w w'→(execOp a.eval o).run P w'=.ok (.value v) w') (ha':a.put N v=a') (h:wpOrdC S P ops Q R acts reads ds rest a' w):wpOrdC S P ops Q R acts reads ds (i :: rest) a w:=by
 have hi:ops[i]? = some o:=by simpa using hl
 subst ha'
 subst hN
 unfold wpOrdC
 rw [hi]
 simp only [ha,hr,Bool.false_eq_true,if_false,if_true]
 exact ⟨v,.inl ⟨by simp [Region.wanted,hg],hy⟩,fun c a w=>hQ v c a w,h⟩
theorem ztI {N:Option Tmp} (hl:ops.toList[i]? = some o) (ha:acts.contains i=false) (hr:reads.contains i=false) (hN:o.dst=N) (hg:Region.wanted o (yielded ops a.tmps)=true) (hQ:∀ v c a w,Q (.panic c) (a.put N v) w→Q (.panic c) a w) (v:Value) (a':Act)
    (hy:∀ w',(execOp a.eval o).run P w'=.ok (.value v) w') (ha':a.put N v=a') (h:wpOrdC S P ops Q R acts reads ds rest a' w):wpOrdC S P ops Q R acts reads ds (i :: rest) a w:=by
 have hi:ops[i]? = some o:=by simpa using hl
 subst ha'
 subst hN
 unfold wpOrdC
 rw [hi]
 simp only [ha,hr,Bool.false_eq_true,if_false,if_true]
 exact ⟨v,.inl ⟨hg,fun w' _=>hy w'⟩,fun c a w=>hQ v c a w,h⟩
theorem zkC {N:Option Tmp} (hl:ops.toList[i]? = some o) (ha:acts.contains i=false) (hr:reads.contains i=true) (hN:o.dst=N) (hg:Region.wanted o (yielded ops a.tmps)=true) (hQ:∀ v c a w,Q (.panic c) (a.put N v) w→Q (.panic c) a w) (v:Value) (a':Act)
    (hy:∀ w',Keep S w w'→(execOp a.eval o).run P w'=.ok (.value v) w') (ha':a.put N v=a') (h:wpOrdC S P ops Q R acts reads ds rest a' w):wpOrdC S P ops Q R acts reads ds (i :: rest) a w:=by
 have hi:ops[i]? = some o:=by simpa using hl
 subst ha'
 subst hN
 unfold wpOrdC
 rw [hi]
 simp only [ha,hr,Bool.false_eq_true,if_false,if_true]
 exact ⟨v,.inl ⟨hg,hy⟩,fun c a w=>hQ v c a w,h⟩
theorem zIB {N:Option Tmp} (hl:ops.toList[i]? = some o) (ha:acts.contains i=false) (hN:o.dst=N) (hg:Region.wanted o (yielded ops a.tmps)=false) (hQ:∀ v c a w,Q (.panic c) (a.put N v) w→Q (.panic c) a w) (a':Act)
    (ha':a.put N undef=a') (h:wpOrdC S P ops Q R acts reads ds rest a' w):wpOrdC S P ops Q R acts reads ds (i :: rest) a w:=by
 have hi:ops[i]? = some o:=by simpa using hl
 subst ha'
 subst hN
 unfold wpOrdC
 rw [hi]
 simp only [ha,Bool.false_eq_true,if_false]
 exact ⟨undef,.inr ⟨hg,rfl⟩,fun c a w=>hQ undef c a w,h⟩
theorem zmA (hl:ops.toList[i]? = some o) (ha:acts.contains i=true)
    (h:∀ K:Act→World→Prop,(∀ a' w',((i∉ds→Keep S w w')∧wpOrdC S P ops Q R acts reads ds rest a' w')→K a' w')→if Region.wanted o (yielded ops a.tmps)=true then Oper.wp P o a w K Q else K (a.put o.dst undef) w) :
    wpOrdC S P ops Q R acts reads ds (i :: rest) a w:=by
 have hi:ops[i]? = some o:=by simpa using hl
 unfold wpOrdC
 rw [hi]
 simp only [ha,if_true]
 have:=h _ (fun _ _ h=>h)
 unfold wpOp
 simp only [hi]
 split
 ·rename_i hw;rw [if_pos hw] at this;exact .inl this
 ·rename_i hw;rw [if_neg hw] at this;exact this
theorem zuI {N:Option Tmp} (hl:ops.toList[i]? = some o) (ha:acts.contains i=true) (hN:o.dst=N) (hg:o.guard=none) (v:Value) (w':World) (a':Act)
    (hy:(execOp a.eval o).run P w=.ok (.value v) w') (hk:i∉ds→Keep S w w') (ha':a.put N v=a') (h:wpOrdC S P ops Q R acts reads ds rest a' w'):wpOrdC S P ops Q R acts reads ds (i :: rest) a w:=by
 refine zmA hl ha (fun K hK=>?_)
 rw [if_pos (by simp [Region.wanted,hg])]
 subst hN
 subst ha'
 unfold Oper.wp
 rw [hy,Oper.upon_value]
 exact hK _ _ ⟨hk,h⟩
theorem zXL {N:Option Tmp} (hl:ops.toList[i]? = some o) (ha:acts.contains i=true) (hN:o.dst=N) (hg:o.guard=none) (v:Value) (a':Act)
    (hy:(execOp a.eval o).run P w=.ok (.value v) w) (ha':a.put N v=a') (h:wpOrdC S P ops Q R acts reads ds rest a' w):wpOrdC S P ops Q R acts reads ds (i :: rest) a w :=
 zuI hl ha hN hg v w a' hy (fun _=>Keep.refl _ _) ha' h
theorem ord_p {N:Option Tmp} {v:Value} {a':Act} (h:wpOrdC S P ops Q R acts reads ds rest a' w) (hl:ops.toList[i]? = some o:=by exact rfl) (ha:acts.contains i=false:=by exact rfl) (hr:reads.contains i=false:=by exact rfl) (hN:o.dst=N:=by exact rfl) (hg:o.guard=none:=by exact rfl) (hQ:∀ v c a w,Q (.panic c) (a.put N v) w→Q (.panic c) a w:=by exact fun _ _ _ _ h=>h)
    (hy:∀ w',(execOp a.eval o).run P w'=.ok (.value v) w':=by intro w';go_simp;with_reducible rfl) (ha':a.put N v=a':=by simp only [Act.put,pB,pC,pD];rfl):wpOrdC S P ops Q R acts reads ds (i :: rest) a w :=
 zLK hl ha hr hN hg hQ v a' hy ha' h
theorem zT {N:Option Tmp} {v:Value} {a':Act} (h:wpOrdC S P ops Q R acts reads ds rest a' w) (hl:ops.toList[i]? = some o:=by exact rfl) (ha:acts.contains i=false:=by exact rfl) (hr:reads.contains i=false:=by exact rfl) (hN:o.dst=N:=by exact rfl) (hg:Region.wanted o (yielded ops a.tmps)=true:=by exact rfl) (hQ:∀ v c a w,Q (.panic c) (a.put N v) w→Q (.panic c) a w:=by exact fun _ _ _ _ h=>h)
    (hy:∀ w',(execOp a.eval o).run P w'=.ok (.value v) w':=by intro w';go_simp;with_reducible rfl) (ha':a.put N v=a':=by simp only [Act.put,pB,pC,pD];rfl):wpOrdC S P ops Q R acts reads ds (i :: rest) a w :=
 ztI hl ha hr hN hg hQ v a' hy ha' h
theorem ord_r {N:Option Tmp} {v:Value} {a':Act} (hl:ops.toList[i]? = some o:=by exact rfl) (ha:acts.contains i=false:=by exact rfl) (hr:reads.contains i=true:=by exact rfl) (hN:o.dst=N:=by exact rfl) (hg:o.guard=none:=by exact rfl) (hQ:∀ v c a w,Q (.panic c) (a.put N v) w→Q (.panic c) a w:=by exact fun _ _ _ _ h=>h)
    (y:∀ w',Keep S w w'→(execOp a.eval o).run P w'=.ok (.value v) w') (z:wpOrdC S P ops Q R acts reads ds rest a' w) (ha':a.put N v=a':=by simp only [Act.put,pB,pC,pD];rfl):wpOrdC S P ops Q R acts reads ds (i :: rest) a w :=
 zTB hl ha hr hN hg hQ v a' y ha' z
theorem zNM {N:Option Tmp} {v:Value} {a':Act} (hl:ops.toList[i]? = some o:=by exact rfl) (ha:acts.contains i=false:=by exact rfl) (hr:reads.contains i=true:=by exact rfl) (hN:o.dst=N:=by exact rfl) (hg:Region.wanted o (yielded ops a.tmps)=true:=by exact rfl) (hQ:∀ v c a w,Q (.panic c) (a.put N v) w→Q (.panic c) a w:=by exact fun _ _ _ _ h=>h)
    (y:∀ w',Keep S w w'→(execOp a.eval o).run P w'=.ok (.value v) w') (z:wpOrdC S P ops Q R acts reads ds rest a' w) (ha':a.put N v=a':=by simp only [Act.put,pB,pC,pD];rfl):wpOrdC S P ops Q R acts reads ds (i :: rest) a w :=
 zkC hl ha hr hN hg hQ v a' y ha' z
theorem oc1 {N:Option Tmp} {v:Value} {a':Act} {p0:Addr} {u0:Value} (h0:w.cell? p0=some u0) (z:wpOrdC S P ops Q R acts reads ds rest a' w) (s0:¬ S p0.block:=by exact fun h=>h) (hl:ops.toList[i]? = some o:=by exact rfl) (ha:acts.contains i=false:=by exact rfl) (hr:reads.contains i=true:=by exact rfl) (hN:o.dst=N:=by exact rfl) (hg:o.guard=none:=by exact rfl) (hQ:∀ v c a w,Q (.panic c) (a.put N v) w→Q (.panic c) a w:=by exact fun _ _ _ _ h=>h) (y:∀ w',w'.cell? p0=some u0→(execOp a.eval o).run P w'=.ok (.value v) w':=by intro w' q0;go_simp;with_reducible rfl) (ha':a.put N v=a':=by simp only [Act.put,pB,pC,pD];rfl):wpOrdC S P ops Q R acts reads ds (i :: rest) a w :=
 zTB hl ha hr hN hg hQ v a' (fun w' hk=>y w' (hk.cell h0 s0)) ha' z
theorem oc1G {N:Option Tmp} {v:Value} {a':Act} {p0:Addr} {u0:Value} (h0:w.cell? p0=some u0) (z:wpOrdC S P ops Q R acts reads ds rest a' w) (s0:¬ S p0.block:=by exact fun h=>h) (hl:ops.toList[i]? = some o:=by exact rfl) (ha:acts.contains i=false:=by exact rfl) (hr:reads.contains i=true:=by exact rfl) (hN:o.dst=N:=by exact rfl) (hg:Region.wanted o (yielded ops a.tmps)=true:=by exact rfl) (hQ:∀ v c a w,Q (.panic c) (a.put N v) w→Q (.panic c) a w:=by exact fun _ _ _ _ h=>h) (y:∀ w',w'.cell? p0=some u0→(execOp a.eval o).run P w'=.ok (.value v) w':=by intro w' q0;go_simp;with_reducible rfl) (ha':a.put N v=a':=by simp only [Act.put,pB,pC,pD];rfl):wpOrdC S P ops Q R acts reads ds (i :: rest) a w :=
 zkC hl ha hr hN hg hQ v a' (fun w' hk=>y w' (hk.cell h0 s0)) ha' z
theorem oc2 {N:Option Tmp} {v:Value} {a':Act} {p0:Addr} {u0:Value} {p1:Addr} {u1:Value} (h0:w.cell? p0=some u0) (h1:w.cell? p1=some u1) (z:wpOrdC S P ops Q R acts reads ds rest a' w) (s0:¬ S p0.block:=by exact fun h=>h) (s1:¬ S p1.block:=by exact fun h=>h) (hl:ops.toList[i]? = some o:=by exact rfl) (ha:acts.contains i=false:=by exact rfl) (hr:reads.contains i=true:=by exact rfl) (hN:o.dst=N:=by exact rfl) (hg:o.guard=none:=by exact rfl) (hQ:∀ v c a w,Q (.panic c) (a.put N v) w→Q (.panic c) a w:=by exact fun _ _ _ _ h=>h) (y:∀ w',w'.cell? p0=some u0→w'.cell? p1=some u1→(execOp a.eval o).run P w'=.ok (.value v) w':=by intro w' q0 q1;go_simp;with_reducible rfl) (ha':a.put N v=a':=by simp only [Act.put,pB,pC,pD];rfl):wpOrdC S P ops Q R acts reads ds (i :: rest) a w :=
 zTB hl ha hr hN hg hQ v a' (fun w' hk=>y w' (hk.cell h0 s0) (hk.cell h1 s1)) ha' z
theorem oc3 {N:Option Tmp} {v:Value} {a':Act} {p0:Addr} {u0:Value} {p1:Addr} {u1:Value} {p2:Addr} {u2:Value} (h0:w.cell? p0=some u0) (h1:w.cell? p1=some u1) (h2:w.cell? p2=some u2) (z:wpOrdC S P ops Q R acts reads ds rest a' w) (s0:¬ S p0.block:=by exact fun h=>h) (s1:¬ S p1.block:=by exact fun h=>h) (s2:¬ S p2.block:=by exact fun h=>h) (hl:ops.toList[i]? = some o:=by exact rfl) (ha:acts.contains i=false:=by exact rfl) (hr:reads.contains i=true:=by exact rfl) (hN:o.dst=N:=by exact rfl) (hg:o.guard=none:=by exact rfl) (hQ:∀ v c a w,Q (.panic c) (a.put N v) w→Q (.panic c) a w:=by exact fun _ _ _ _ h=>h) (y:∀ w',w'.cell? p0=some u0→w'.cell? p1=some u1→w'.cell? p2=some u2→(execOp a.eval o).run P w'=.ok (.value v) w':=by intro w' q0 q1 q2;go_simp;with_reducible rfl) (ha':a.put N v=a':=by simp only [Act.put,pB,pC,pD];rfl):wpOrdC S P ops Q R acts reads ds (i :: rest) a w :=
 zTB hl ha hr hN hg hQ v a' (fun w' hk=>y w' (hk.cell h0 s0) (hk.cell h1 s1) (hk.cell h2 s2)) ha' z
theorem oc3G {N:Option Tmp} {v:Value} {a':Act} {p0:Addr} {u0:Value} {p1:Addr} {u1:Value} {p2:Addr} {u2:Value} (h0:w.cell? p0=some u0) (h1:w.cell? p1=some u1) (h2:w.cell? p2=some u2) (z:wpOrdC S P ops Q R acts reads ds rest a' w) (s0:¬ S p0.block:=by exact fun h=>h) (s1:¬ S p1.block:=by exact fun h=>h) (s2:¬ S p2.block:=by exact fun h=>h) (hl:ops.toList[i]? = some o:=by exact rfl) (ha:acts.contains i=false:=by exact rfl) (hr:reads.contains i=true:=by exact rfl) (hN:o.dst=N:=by exact rfl) (hg:Region.wanted o (yielded ops a.tmps)=true:=by exact rfl) (hQ:∀ v c a w,Q (.panic c) (a.put N v) w→Q (.panic c) a w:=by exact fun _ _ _ _ h=>h) (y:∀ w',w'.cell? p0=some u0→w'.cell? p1=some u1→w'.cell? p2=some u2→(execOp a.eval o).run P w'=.ok (.value v) w':=by intro w' q0 q1 q2;go_simp;with_reducible rfl) (ha':a.put N v=a':=by simp only [Act.put,pB,pC,pD];rfl):wpOrdC S P ops Q R acts reads ds (i :: rest) a w :=
 zkC hl ha hr hN hg hQ v a' (fun w' hk=>y w' (hk.cell h0 s0) (hk.cell h1 s1) (hk.cell h2 s2)) ha' z
theorem oc5 {N:Option Tmp} {v:Value} {a':Act} {p0:Addr} {u0:Value} {p1:Addr} {u1:Value} {p2:Addr} {u2:Value} {p3:Addr} {u3:Value} {p4:Addr} {u4:Value} (h0:w.cell? p0=some u0) (h1:w.cell? p1=some u1) (h2:w.cell? p2=some u2) (h3:w.cell? p3=some u3) (h4:w.cell? p4=some u4) (z:wpOrdC S P ops Q R acts reads ds rest a' w) (s0:¬ S p0.block:=by exact fun h=>h) (s1:¬ S p1.block:=by exact fun h=>h) (s2:¬ S p2.block:=by exact fun h=>h) (s3:¬ S p3.block:=by exact fun h=>h) (s4:¬ S p4.block:=by exact fun h=>h) (hl:ops.toList[i]? = some o:=by exact rfl) (ha:acts.contains i=false:=by exact rfl) (hr:reads.contains i=true:=by exact rfl) (hN:o.dst=N:=by exact rfl) (hg:o.guard=none:=by exact rfl) (hQ:∀ v c a w,Q (.panic c) (a.put N v) w→Q (.panic c) a w:=by exact fun _ _ _ _ h=>h) (y:∀ w',w'.cell? p0=some u0→w'.cell? p1=some u1→w'.cell? p2=some u2→w'.cell? p3=some u3→w'.cell? p4=some u4→(execOp a.eval o).run P w'=.ok (.value v) w':=by intro w' q0 q1 q2 q3 q4;go_simp;with_reducible rfl) (ha':a.put N v=a':=by simp only [Act.put,pB,pC,pD];rfl):wpOrdC S P ops Q R acts reads ds (i :: rest) a w :=
 zTB hl ha hr hN hg hQ v a' (fun w' hk=>y w' (hk.cell h0 s0) (hk.cell h1 s1) (hk.cell h2 s2) (hk.cell h3 s3) (hk.cell h4 s4)) ha' z
theorem oc7 {N:Option Tmp} {v:Value} {a':Act} {p0:Addr} {u0:Value} {p1:Addr} {u1:Value} {p2:Addr} {u2:Value} {p3:Addr} {u3:Value} {p4:Addr} {u4:Value} {p5:Addr} {u5:Value} {p6:Addr} {u6:Value} (h0:w.cell? p0=some u0) (h1:w.cell? p1=some u1) (h2:w.cell? p2=some u2) (h3:w.cell? p3=some u3) (h4:w.cell? p4=some u4) (h5:w.cell? p5=some u5) (h6:w.cell? p6=some u6) (z:wpOrdC S P ops Q R acts reads ds rest a' w) (s0:¬ S p0.block:=by exact fun h=>h) (s1:¬ S p1.block:=by exact fun h=>h) (s2:¬ S p2.block:=by exact fun h=>h) (s3:¬ S p3.block:=by exact fun h=>h) (s4:¬ S p4.block:=by exact fun h=>h) (s5:¬ S p5.block:=by exact fun h=>h) (s6:¬ S p6.block:=by exact fun h=>h) (hl:ops.toList[i]? = some o:=by exact rfl) (ha:acts.contains i=false:=by exact rfl) (hr:reads.contains i=true:=by exact rfl) (hN:o.dst=N:=by exact rfl) (hg:o.guard=none:=by exact rfl) (hQ:∀ v c a w,Q (.panic c) (a.put N v) w→Q (.panic c) a w:=by exact fun _ _ _ _ h=>h) (y:∀ w',w'.cell? p0=some u0→w'.cell? p1=some u1→w'.cell? p2=some u2→w'.cell? p3=some u3→w'.cell? p4=some u4→w'.cell? p5=some u5→w'.cell? p6=some u6→(execOp a.eval o).run P w'=.ok (.value v) w':=by intro w' q0 q1 q2 q3 q4 q5 q6;go_simp;with_reducible rfl) (ha':a.put N v=a':=by simp only [Act.put,pB,pC,pD];rfl):wpOrdC S P ops Q R acts reads ds (i :: rest) a w :=
 zTB hl ha hr hN hg hQ v a' (fun w' hk=>y w' (hk.cell h0 s0) (hk.cell h1 s1) (hk.cell h2 s2) (hk.cell h3 s3) (hk.cell h4 s4) (hk.cell h5 s5) (hk.cell h6 s6)) ha' z
theorem ord_s {N:Option Tmp} {v:Value} {a':Act} (h:wpOrdC S P ops Q R acts reads ds rest a' w) (hl:ops.toList[i]? = some o:=by exact rfl) (ha:acts.contains i=true:=by exact rfl) (hN:o.dst=N:=by exact rfl) (hg:o.guard=none:=by exact rfl)
    (hy:(execOp a.eval o).run P w=.ok (.value v) w:=by go_simp;with_reducible rfl) (ha':a.put N v=a':=by simp only [Act.put,pB,pC,pD];rfl):wpOrdC S P ops Q R acts reads ds (i :: rest) a w :=
 zXL hl ha hN hg v a' hy ha' h
theorem zh {N:Option Tmp} (hl:ops.toList[i]? = some o) (ha:acts.contains i=true) (hN:o.dst=N) (hg:o.guard=none) (v:Value) (ob:Obj) (a':Act)
    (hy:(execOp a.eval o).run P w=.ok (.value v) (w.alloc ob)) (ha':a.put N v=a') (h:wpOrdC S P ops Q R acts reads ds rest a' (w.alloc ob)):wpOrdC S P ops Q R acts reads ds (i :: rest) a w :=
 zuI hl ha hN hg v _ a' hy (fun _=>(Keep.refl _ _).alloc _) ha' h
theorem zJ (hl:ops.toList[i]? = some o) (ha:acts.contains i=true) (hN:o.dst=none) (hg:o.guard=none) (w':World)
    (hy:(execOp a.eval o).run P w=.ok .skip w') (hk:i∉ds→Keep S w w') (h:wpOrdC S P ops Q R acts reads ds rest a w'):wpOrdC S P ops Q R acts reads ds (i :: rest) a w:=by
 refine zmA hl ha (fun K hK=>?_)
 rw [if_pos (by simp [Region.wanted,hg])]
 unfold Oper.wp
 rw [hy,Oper.upon_skip,hN]
 exact hK _ _ ⟨hk,h⟩
theorem zG {N:Option Tmp} {f:FuncId} {fn:Func} {xs:Array Operand} {ts:Array TypeId} (hl:ops.toList[i]? = some o) (ha:acts.contains i=true) (hN:o.dst=N) (hg:o.guard=none)
    (hop : o.op = .call { callee := .value (.func f), args := xs, argTypes := ts }) (hf : P.funcs[f]? = some fn) (hname : (fn.name == "runtime.NumGoroutine") = false) (hb : fn.body.isSome = true) (args : List Value) (hargs : xs.toList.map a.eval = args)
    (h:Calls P f args.toArray w fun e w'=>∃ v,e=.returned v∧(i∉ds→Keep S w w')∧wpOrdC S P ops Q R acts reads ds rest (a.put N v) w'):wpOrdC S P ops Q R acts reads ds (i :: rest) a w:=by
 refine zmA hl ha (fun K hK=>?_)
 rw [if_pos (by simp [Region.wanted,hg])]
 subst hN
 unfold Oper.wp
 have h1 : fn.name ≠ "runtime.NumGoroutine" := by simpa using hname
 obtain ⟨c,hc⟩:=Option.isSome_iff_exists.1 hb
 have hcall:(callFunc f args.toArray).run P w=.ok (.enter f args.toArray) w:=by simp [callFunc,hf,h1,hc]
 have he:(execOp a.eval o).run P w=.ok (.enter f args.toArray) w:=by
  unfold execOp
  have hx:xs.map a.eval=args.toArray:=by rw [← hargs];apply Array.ext';simp
  rw [hop]
  simp [resolve,Deferred.ofValue,invoke,Act.eval,hx,hcall]
 rw [he,Oper.upon_enter]
 refine h.mono fun e w'' hh=>?_
 obtain ⟨v,rfl,h1,h2⟩:=hh
 exact hK _ _ ⟨h1,h2⟩
end
end
end Go.Proofs.YtfkcpaahdlkcdaaGreat
namespace Go.Proofs.YtfkcpaahdlkcdaaGreat
open Go.RowKit
def ints (l:List Int):List Value:=l.map (Value.int .i64)
def u64s (l:List Int):List Value:=l.map (Value.int .u64)
theorem zkD (l:List Int):∀ u∈ints l,u.oneCell'=true:=by
 intro u hu
 obtain ⟨x,_,rfl⟩:=List.mem_map.1 hu
 rfl
theorem zsA (l:List Int):∀ u∈u64s l,u.oneCell'=true:=by
 intro u hu
 obtain ⟨x,_,rfl⟩:=List.mem_map.1 hu
 rfl
theorem zUB:(Tryz.prog.info? 3).map (fun i=>(i.zero,i.size,i.bytes))=some (some (.int .i64 0),1,8):=by kernel_rfl
theorem ziA:Tryz.prog.underlying 37=some (.slice 3):=by kernel_rfl
theorem zj:(Tryz.prog.info? 22).map (fun i=>(i.zero,i.size,i.bytes))=some (some (.int .u64 0),1,8):=by kernel_rfl
theorem zCA:Tryz.prog.underlying 111=some (.slice 22):=by kernel_rfl
theorem SliceR.cut {size:Nat} {v:Value} {n:Nat} {vs:List Value} {w:World} (h:SliceR size v n vs w):∃ A c,v=.slice A n c:=by
 obtain ⟨A,c,h1,_⟩:=h
 exact ⟨A,c,h1⟩
theorem SliceR.at1 {A:Option Addr} {n c:Nat} {vs:List Value} {w:World} (h:SliceR 1 (.slice A n c) n vs w) (i:Nat) (hi:i<vs.length):∃ ad,A=some ad∧w.cell? (ad.add i)=some vs[i]:=by
 obtain ⟨A',c',e,h1,h2,h3,h4⟩:=h
 injection e with e1 e2 e3
 subst e1
 exact h4 i _ (List.getElem?_eq_getElem hi)
theorem SliceR.int_at {A:Option Addr} {c:Nat} {k:IntKind} {l:List Int} {w:World} (h:SliceR 1 (.slice A l.length c) l.length (l.map (Value.int k)) w) (i:Nat) (hi:i<l.length):∃ ad,A=some ad∧w.cell? (ad.add i)=some (.int k l[i]):=by
 obtain ⟨ad,e,hc⟩:=SliceR.at1 h i (by simpa using hi)
 exact ⟨ad,e,by simpa using hc⟩
def RowsR (k:IntKind) (a:List (List Int)) (v:Value) (w:World):Prop :=
 ∃ A c,v=.slice A a.length c∧∀ i (h:i<a.length),∃ ad A' c',A=some ad∧w.cell? (ad.add i)=some (.slice A' a[i].length c')∧SliceR 1 (.slice A' a[i].length c') a[i].length (a[i].map (Value.int k)) w
theorem RowsR.grow {k:IntKind} {a:List (List Int)} {v:Value} {w w':World} (h:RowsR k a v w) (hg:Grow w w'):RowsR k a v w':=by
 obtain ⟨A,c,e,hr⟩:=h
 refine ⟨A,c,e,fun i hi=>?_⟩
 obtain ⟨ad,A',c',h1,h2,h3⟩:=hr i hi
 exact ⟨ad,A',c',h1,hg.cell h2 (fun h=>h),h3.grow hg⟩
theorem RowsR.at_ {k:IntKind} {a:List (List Int)} {A:Option Addr} {c:Nat} {w:World} (h:RowsR k a (.slice A a.length c) w) (i:Nat) (hi:i<a.length):∃ ad A' c',A=some ad∧w.cell? (ad.add i)=some (.slice A' a[i].length c')∧SliceR 1 (.slice A' a[i].length c') a[i].length (a[i].map (Value.int k)) w:=by
 obtain ⟨A1,c1,e,hr⟩:=h
 injection e with e1 e2 e3
 subst e1
 exact hr i hi
theorem RowsR.slice {k:IntKind} {a:List (List Int)} {v:Value} {w:World} (h:RowsR k a v w):∃ A c,v=.slice A a.length c:=by
 obtain ⟨A,c,e,_⟩:=h
 exact ⟨A,c,e⟩
theorem zbH (a b m:Int) (w:World) (h0:0≤a) (h1:0≤b) (h2:a≤m) (h3:b≤m-a) (hm:m≤9223372036854775807):Calls Tryz.prog 246 #[.int .i64 a,.int .i64 b,.int .i64 m] w fun e w'=>e=.returned (.tuple #[.int .i64 (a+b),.bool true])∧w=w':=by
 have hw:IntKind.i64.wrap (m-a)=m-a:=IntWalk.i64_in _ (by omega)
 have hs:IntKind.i64.wrap (a+b)=a+b:=IntWalk.i64_in _ (by omega)
 go_enter Tryz.func246,Tryz.ntmps246
 rcases Int.lt_trichotomy a b with hl | rfl | hl
 all_goals
  go_wp2
  go_ret2
  exact ⟨by simp,rfl⟩
theorem zvI (a b m:Int) (w:World) (h:a<0∨b<0∨m<a∨m-a<b) (ha : -9223372036854775808≤a) (hm0:0≤m) (hm:m≤9223372036854775807):Calls Tryz.prog 246 #[.int .i64 a,.int .i64 b,.int .i64 m] w fun e w'=>e=.returned (.tuple #[qJ,qL])∧w=w':=by
 by_cases h0:a<0
 ·clear h
  go_enter Tryz.func246,Tryz.ntmps246
  rcases Int.lt_trichotomy a b with hl | rfl | hl
  all_goals
   go_wp2
   go_ret2
   exact ⟨rfl,rfl⟩
 by_cases h1:b<0
 ·clear h
  go_enter Tryz.func246,Tryz.ntmps246
  have hl:b<a:=by omega
  go_wp2
  go_ret2
  exact ⟨rfl,rfl⟩
 by_cases h2:m<a
 ·clear h
  go_enter Tryz.func246,Tryz.ntmps246
  rcases Int.lt_trichotomy a b with hl | rfl | hl
  all_goals
   go_wp2
   go_ret2
   exact ⟨rfl,rfl⟩
 ·have h3:m-a<b:=by omega
  have hw:IntKind.i64.wrap (m-a)=m-a:=IntWalk.i64_in _ (by omega)
  clear h
  go_enter Tryz.func246,Tryz.ntmps246
  rcases Int.lt_trichotomy a b with hl | rfl | hl
  all_goals
   go_wp2
   go_ret2
   exact ⟨rfl,rfl⟩
theorem zwD (n d:Int) (w:World) (h0:0≤n) (h1:n≤9007199254740992) (h2:1≤d) (h3:d≤9007199254740992):Calls Tryz.prog 140 #[.int .i64 n,.int .i64 d] w fun e w'=>e=.returned (.int .i64 ((n+d-1)/d))∧w=w':=by
 go_enter Tryz.func140,Tryz.ntmps140
 go_wp2
 go_ret
 trace_state
 exact ⟨rfl,rfl⟩
structure OkA (a:List (List Int)):Prop where
 segs:a.length≤100000
 words:∀ s∈a,s.length≤100000
 nums:∀ s∈a,∀ x∈s,0≤x∧x≤18446744073709551615
def szs (a:List (List Int)):List Int:=a.map (fun s=>(s.length:Int))
theorem zo (a:List (List Int)):(szs a).length=a.length:=by simp [szs]
theorem zyB (a:List (List Int)) (v:Value) (w:World) (h:RowsR .u64 a v w) (ha:a.length≤100000) :
    Calls Tryz.prog 136 #[v] w fun e w'=>∃ A c,e=.returned (.slice A (szs a).length c)∧Grow w w'∧w'.ownsRow w.heap.size 3 1 (.slice A (szs a).length c) (szs a).length (ints (szs a)):=by
 obtain ⟨A,n,rfl⟩:=h.slice
 have H:=LH h
 clear h
 go_enter Tryz.func136,Tryz.ntmps136
 go_wp2
 go_loopw [3,8] (fun vo v wr=>∃ k:Nat,k≤a.length∧v=.int .i64 k∧∃ A4 c4,vo=.slice A4 k c4∧Hid (Grow w wr∧wr.ownsRow w.heap.size 3 1 (.slice A4 k c4) k (ints ((szs a).take k)))) (fun _ v _=>a.length-(intOf v).toNat)
 case atStart=>exact ⟨0,by omega,rfl,none,0,rfl,Keep.refl _ _,by simpa [ints] using World.ownsRow_nil w w.heap.size 3 1⟩
 case round =>
  obtain ⟨k,hk,rfl,A4,c4,rfl,HS⟩:=hrel
  by_cases hlt:k<a.length
  ·obtain ⟨ad,A',c',rfl,h2,_⟩:=(H.out.grow HS.out.1).at_ k hlt
   have hw:IntKind.i64.wrap ((k:Int)+1)=(k:Int)+1:=IntWalk.i64_in _ (by omega)
   have hlt':(k:Int)<a.length:=by omega
   have e1:ints ((szs a).take (k+1))=ints ((szs a).take k)++[.int .i64 a[k].length]:=by
    rw [List.take_succ_eq_append_getElem (by simpa [szs] using hlt)]
    simp [ints,szs]
   have E1:=LH e1
   clear e1
   go_wp2_with (at_builtin;refine zL _ rfl _ _ 37 37 rfl w.heap.size 3 (.int .i64 0) 1 8 ziA zUB rfl (.slice A4 k c4) k (ints ((szs a).take k)) rfl (.slice (some ⟨wr.heap.size,0,none⟩) 1 1) 1 [.int .i64 a[k].length] rfl ?_ (by exact zF HS.out.2 ((Keep.refl NoB wr).alloc _) (fun _ _ h=>h)) (by exact Src.ofSlice _ ziA ⟨wr.heap.size,0,none⟩ 1 1 _ rfl (World.news_of_block (cs:=#[.int .i64 a[k].length]) (t:=3) (fr:=(0,0)) (heap_alloc_new wr _)) (by simp [Value.oneCell'])) (by simp only [maxLen];omega) (by omega) (by have:=HS.out.1.size;simp;omega);intro v2 w2 hap;refine Hid.out ?_)
   refine LH ?_
   have Hg2:Hid (Grow w w2):=((((HS.out.1.mono (T:=fun k=>w.heap.size≤k) (fun _ h=>h.elim)).alloc _).grown hap.grew (fun k hk=>.inl (HS.out.2.lt k hk).1))).new (fun _ h=>h)
   have Ho2:=LH hap.own
   obtain ⟨A6,c6,rfl,_⟩:=zK hap.own
   clear hap
   rw [← E1.out] at Ho2
   go_wp2
   go_roundw
   case rel=>exact ⟨k+1,by omega,by go_num,A6,c6,rfl,Hg2.out,Ho2.out⟩
   case measure=>simp [intOf];omega
  ·obtain rfl:k=a.length:=by omega
   have hlt':¬ ((a.length:Int)<a.length):=by omega
   go_wp2
   go_ret
   have ho:=HS.out.2
   rw [← zo a,List.take_length] at ho
   exact ⟨A4,c4,by rw [zo];rfl,HS.out.1,ho⟩
def fitsB (l:List Int):Bool:=decide (1≤l.length∧l.length≤16∧1≤l.headD 0∧(∀ x∈l,0≤x)∧l.sum≤4096)
theorem zl {l:List Int} (h:∀ x∈l,0≤x) (k:Nat):(l.take k).sum≤l.sum:=by
 induction l generalizing k with
 | nil=>simp
 | cons x r ih =>
  cases k with
  | zero =>
   have h1:=ih (fun y hy=>h y (by simp [hy])) 0
   have:=h x (by simp)
   simp at h1 ⊢
   omega
  | succ k =>
   have h1:=ih (fun y hy=>h y (by simp [hy])) k
   simp
   omega
theorem zw {l:List Int} {k:Nat} (hk:k<l.length):(l.take (k+1)).sum=(l.take k).sum+l[k]:=by
 rw [List.take_succ_eq_append_getElem hk,List.sum_append]
 simp
theorem zhB (A:Option Addr) (c:Nat) (l:List Int) (w:World) (h:SliceR 1 (.slice A l.length c) l.length (ints l) w) (hb:∀ x∈l,-9223372036854775808≤x∧x≤9223372036854775807) :
    Calls Tryz.prog 203 #[.slice A l.length c] w fun e w'=>e=.returned (.bool (fitsB l))∧w=w':=by
 have H:=LH h
 have HB:=LH hb
 clear h hb
 by_cases h0:l.length=0
 ·have hf:fitsB l=false:=by simp [fitsB,h0]
  have HF:=LH hf
  clear hf
  have h1:(l.length:Int)<1:=by omega
  clear h0
  go_enter Tryz.func203,Tryz.ntmps203
  go_wp2
  go_ret
  exact ⟨by rw [HF.out];rfl,rfl⟩
 have h1:¬ ((l.length:Int)<1):=by omega
 by_cases h16:16<l.length
 ·have hf:fitsB l=false:=by simp [fitsB];omega
  have HF:=LH hf
  clear hf
  have h2:(16:Int)<l.length:=by omega
  go_enter Tryz.func203,Tryz.ntmps203
  go_wp2
  go_ret
  exact ⟨by rw [HF.out];rfl,rfl⟩
 have h2:¬ ((16:Int)<l.length):=by omega
 obtain ⟨ad,rfl,q0⟩:=SliceR.int_at (k:=.i64) H.out 0 (by omega)
 have q0':w.cell? ad=some (.int .i64 l[0]):=by simpa [Addr.add] using q0
 have hhd:l.headD 0=l[0]:=by
  cases l with
  | nil=>simp at h0
  | cons x r=>rfl
 clear q0
 by_cases hx:l[0]<1
 ·have hf:fitsB l=false:=decide_eq_false (fun ⟨_,_,g,_⟩=>by omega)
  have HF:=LH hf
  clear hf hhd h0
  go_enter Tryz.func203,Tryz.ntmps203
  go_wp2
  go_ret
  exact ⟨by rw [HF.out];rfl,rfl⟩
 ·have Hh := LH hhd
  clear hhd h0
  go_enter Tryz.func203,Tryz.ntmps203
  go_wp2
  clear q0'
  go_loopw [3,24] (fun vn v wr=>wr=w∧∃ k:Nat,k≤l.length∧v=.int .i64 k∧vn=.int .i64 (l.take k).sum∧Hid ((∀ x∈l.take k,0≤x)∧0≤(l.take k).sum∧(l.take k).sum≤4096)) (fun _ v _=>l.length-(intOf v).toNat)
  case atStart=>exact ⟨rfl,0,by omega,rfl,by simp,by intro x hx;simp at hx,by simp⟩
  case round =>
   obtain ⟨rfl,k,hk,rfl,rfl,HS⟩:=hrel
   by_cases hlt:k<l.length
   ·obtain ⟨ad2,e,q1⟩:=SliceR.int_at (k:=.i64) H.out k hlt
    injection e with e
    subst e
    have hw:IntKind.i64.wrap ((k:Int)+1)=(k:Int)+1:=IntWalk.i64_in _ (by omega)
    have hlt':(k:Int)<l.length:=by omega
    have hsu:=zw hlt
    have hs0:=HS.out.2.1
    have hs1:=HS.out.2.2
    by_cases hok:0≤l[k]∧l[k]≤4096-(l.take k).sum
    ·have Hsu:=LH hsu
     have HS2:Hid ((∀ x∈l.take (k+1),0≤x)∧0≤(l.take (k+1)).sum∧(l.take (k+1)).sum≤4096):=by
      refine ⟨?_,by omega,by omega⟩
      rw [List.take_succ_eq_append_getElem hlt]
      intro x hx
      rcases List.mem_append.1 hx with e | e
      ·exact HS.out.1 x e
      ·rw [List.mem_singleton.1 e];exact hok.1
     have hA:=hok.1
     have hB:=hok.2
     clear hsu hok
     go_wp2_with fail
     refine (zbH _ _ 4096 wr hs0 hA hs1 hB (by omega)).mono ?_
     rintro e w' ⟨rfl,rfl⟩
     rw [← Hsu.out]
     go_wp2
     go_roundw
     case rel=>exact ⟨trivial,k+1,by omega,by go_num,rfl,HS2⟩
     case measure=>simp [intOf];omega
    ·have hf:fitsB l=false:=by
       have hn:¬ ((∀ x∈l,0≤x)∧l.sum≤4096):=fun ⟨g1,g2⟩=>hok ⟨g1 _ (List.getElem_mem hlt),by have:=zl g1 (k+1);omega⟩
       exact decide_eq_false (fun ⟨_,_,_,g1,g2⟩=>hn ⟨g1,g2⟩)
     have HF:=LH hf
     have hlo:=(HB.out _ (List.getElem_mem hlt)).1
     clear hf hsu
     go_wp2_with fail
     refine (zvI (l.take k).sum l[k] 4096 wr (by omega) (by omega) (by omega) (by omega)).mono ?_
     rintro e w' ⟨rfl,rfl⟩
     clear hok
     go_wp2
     go_ret
     exact ⟨by rw [HF.out];rfl,rfl⟩
   ·obtain rfl:k=l.length:=by omega
    have hlt':¬ ((l.length:Int)<l.length):=by omega
    have hf:fitsB l=true:=by
     have hS:=HS.out
     rw [List.take_length] at hS
     exact decide_eq_true ⟨by omega,by omega,by rw [Hh.out];omega,hS.1,hS.2.2⟩
    have HF:=LH hf
    clear hf
    go_wp2
    go_ret
    exact ⟨by rw [HF.out];rfl,rfl⟩
end Go.Proofs.YtfkcpaahdlkcdaaGreat

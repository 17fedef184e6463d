import Derived.Test.YtfkcpaahdlkcdaaGreatRRecvSum05
import Derived.Test.YtfkcpaahdlkcdaaGreatRRecvSum18
import Derived.Maps.RangeWalk
set_option linter.unusedSimpArgs false
set_option linter.unusedVariables false
set_option maxRecDepth 100000
set_option maxHeartbeats 16000000
namespace Go.Proofs.YtfkcpaahdlkcdaaGreat
open Go.RowKit
theorem Rv0.again {x:RX} {g st:Nat} {rc rc':RC} {k:KS} {Gk F F':Nat→Prop} {w w':World} (h:Rv0 x g st rc k Gk F w) (hk:Keep (fun j=>j=g) w w') (hc:RCell g rc' w') (e1:rc'.st=rc.st) (e2:rc'.quota=rc.quota) (e3:rc'.part=rc.part) (e4:rc'.err=rc.err) (hF:∀ j,F j→F' j):Rv0 x g st rc' k Gk F' w' :=
 ⟨hc,e1.trans h.st,e2.trans h.quota,h.kat.keep hk (fun j hj e=>h.gk (by rw [← e];exact hj)) (fun j hj e=>h.gg (by rw [← e];exact hj)),h.gk,h.gg,hF _ h.fg,fun j hj=>hF j (h.fk j hj),fun j hj=>hF j (h.fG j hj),h.n,h.f0,h.lo,e3.trans h.part,e4.trans h.err⟩
theorem zGG {x:RX} (hx:x.Ok) {g st:Nat} {rc rc0 rc':RC} {k:KS} {Gk F:Nat→Prop} {w w':World} (h:Rv0 x g st rc k Gk F w) (hF:∀ j,F j→j<w.heap.size) {hs:Nat→Bool} {i:Nat} (hi:i<x.P) (hh:∀ j,j<x.P→rc0.h j=hs j) (hno:allH x (fun j=>j==i||hs j)=false) {s:Sl} (hrc:rc'=(rc0.setH i).setZ i s)
    (e1:rc0.st=rc.st) (e2:rc0.quota=rc.quota) (e3:rc0.part=rc.part) (e4:rc0.phase=1) (e5:rc0.of=(x.P:Int)) (e6:rc0.session=x.s) (e7:rc0.sum=x.m) (e8:rc0.err=rc.err) {G':Nat→Prop} (hc:RCell g rc' w') (hH:Hear rc' x.pgs G' w') (hk:Keep (fun j=>j=g) w w') (hG:∀ j,G' j→(F j∧¬ KF st k j∧j≠g)∨w.heap.size≤j) :
    ∃ F',RvI x g st (.hear (fun j=>j==i||hs j)) F' w'∧(∀ j,F' j→F j∨w.heap.size≤j)∧∀ j,F' j→j<w'.heap.size:=by
 have h4:=hx.small.2.1
 have hr:=RC.set_rest rc0 i (by omega) s
 rw [← hrc] at hr
 have hsm:=h.small
 have hg:=h.small.1
 refine ⟨fun j=>F j∨G' j,⟨rc',k,Gk,G',h.again hk hc (by rw [hr];exact e1) (by rw [hr];exact e2) (by rw [hr];exact e3) (by rw [hr];exact e8) (fun j hj=>.inl hj),by rw [hr];exact e4,by rw [hr];exact e5,by rw [hr];exact e6,by rw [hr];exact e7,hH,fun e=>?_,fun j hj=>⟨.inr hj,fun e=>?_⟩,fun j hj=>?_,hno⟩,fun j hj=>hj.elim .inl (fun e=>(hG j e).imp (fun h=>h.1) id),fun j hj=>hj.elim (fun e=>Nat.lt_of_lt_of_le (hF j e) hk.size) (hH.1 j)⟩
 ·rcases hG g e with e2 | e2
  ·exact e2.2.2 rfl
  ·omega
 ·rcases hG j hj with e2 | e2
  ·exact e2.2.1 e
  ·have:=hsm.2.1 j e;omega
 ·rw [hrc,(RC.set_h rc0 i (by omega) s j (by omega)).1,hh j hj]
  by_cases e:j=i
  ·simp [e]
  ·simp [e]
theorem zHG {x:RX} (hx:x.Ok) {g st:Nat} {rc rc':RC} {k:KS} {Gk F:Nat→Prop} {w w':World} (h:Rv0 x g st rc k Gk F w) (hF:∀ j,F j→j<w.heap.size) {b:Nat} {p:PP} {Gp:Nat→Prop} {A:Option Addr} {c m:Nat} {S:Nat→Prop}
    (hc:RCell g (rc'.begin ⟨b,0,none⟩ x.s x.m) w') (e1:rc'.st=rc.st) (e2:rc'.quota=rc.quota) (e3:rc'.err=rc.err) (hP:PAt b p ⟨x.s,szs x.a,x.m,List.replicate (szs x.a).sum.toNat 0,makeB (chunksN (szs x.a))⟩ Gp w') (hK:KAt rc.st ((k.clear m).step A c) NoB w') (hk:Keep S w w') (hS:∀ j,S j→F j)
    (hb:w.heap.size≤b) (hw:w.heap.size≤p.wb) (hG:∀ j,Gp j→w.heap.size≤j) (hKF:∀ j,KF rc.st ((k.clear m).step A c) j→(KF rc.st k j∨w.heap.size≤j)∧j≠b∧j≠p.wb∧¬ Gp j) :
    ∃ F',RvI x g st (.part (makeB x.Q)) F' w'∧Keep F w w'∧(∀ j,F' j→F j∨w.heap.size≤j)∧∀ j,F' j→j<w'.heap.size:=by
 have hsm:=h.small
 have hsx:=hx.small
 have hst:(rc'.begin ⟨b,0,none⟩ x.s x.m).st=st:=e1.trans h.st
 have hpd:parD x (makeB x.Q)=⟨x.s,szs x.a,x.m,List.replicate (szs x.a).sum.toNat 0,makeB (chunksN (szs x.a))⟩:=by
  unfold parD
  rw [zpG,← hsx.2.2.2.2.2.1]
  rfl
 have hbo:=BitsOk.make x.Q
 have hp0:popB (makeB x.Q)=0:=by
  rw [hbo.pop,List.filter_eq_nil_iff.2 (fun i _=>by rw [zrB];simp)]
  rfl
 have hKs:=hK.small
 have hPl:=hP.lt
 have hat:RcvAt g (rc'.begin ⟨b,0,none⟩ x.s x.m) b p (parD x (makeB x.Q)) Gp ((k.clear m).step A c) NoB w':=by
  rw [hpd]
  refine ⟨hc,rfl,hP,by rw [hst,← h.st];exact hK,⟨by omega,by omega,fun e=>by have:=hG g e;omega,fun e=>?_,fun e=>e⟩,fun j hj=>?_,⟨fun e=>e,fun e=>e⟩⟩
  ·rw [hst,← h.st] at e
   rcases (hKF g e).1 with e2 | e2
   ·rw [h.st] at e2;exact h.gk e2
   ·omega
  ·rw [hst,← h.st] at hj
   exact (hKF j hj).2
 refine ⟨fun j=>RF g st b p ((k.clear m).step A c) j∨Gp j,⟨_,b,p,Gp,_,NoB,⟨hat,hst,e2.trans h.quota,rfl,rfl,e3.trans h.err,hbo,by show (k.clear m).lo.n+1=_;rw [hp0];show k.lo.n+1=_;rw [h.lo],by rw [hp0];rfl,fun j hj=>.inl hj,fun j hj=>.inr hj,fun j hj=>hj.elim⟩,rfl,by rw [hp0];omega⟩,hk.mono hS,fun j hj=>?_,fun j hj=>?_⟩
 ·rcases hj with (e | e | e | e) | e
  ·rw [e];exact .inl h.fg
  ·exact .inr (by omega)
  ·exact .inr (by omega)
  ·rw [← h.st] at e
   exact (hKF j e).1.imp (fun e=>h.fk j (by rw [← h.st];exact e)) id
  ·exact .inr (hG j e)
 ·rcases hj with (e | e | e | e) | e
  ·rw [e];exact hc.lt
  ·rw [e];exact hPl.1
  ·rw [e];exact hPl.2
  ·rw [← h.st] at e;exact hKs j e
  ·exact hP.ro.1 j e
theorem zIG (x:RX) (i:Nat):allH x (fun j=>j==i||false)=allH x (fun j=>j==i):=by simp [allH]
theorem zDF {x:RX} (hx:x.Ok) {g st:Nat} {F:Nat→Prop} {w:World} (hF:∀ j,F j→j<w.heap.size) (i:Nat) (hi:i<x.P) (A1:Option Addr) (c1:Nat) {FS:Nat→Prop} (hS:Foot (SliceR 1 (.slice A1 (pageP (szs x.a) i).length c1) (pageP (szs x.a) i).length (ints (pageP (szs x.a) i))) w FS) (hFS:∀ j,FS j→¬ F j) (h:RvI x g st .idle F w) :
    Calls Tryz.prog 39 #[.pointer (some ⟨g,0,none⟩),.agg #[.int .i64 1,.int .u64 x.s,.int .i64 i,.int .i64 x.P,.int .u32 (x.m:Nat),.slice A1 (pageP (szs x.a) i).length c1,.slice none 0 0]] w fun e w'=>∃ v,e=.returned v∧RvStep x g st (offS x .idle i) (offK x .idle i) F w v w':=by
 obtain ⟨rc,k,Gk,h0,hp⟩:=h
 have h4:=hx.small.2.1
 have hpg:=hx.pages
 have hlen:=x.pgs_length
 have hil:i<x.pgs.length:=by omega
 have hpi:=x.pgs_get i hil
 have hl4:(x.pgs[i]'hil).length≤4:=by rw [hpi];exact znC _ _
 refine zFC h0.cell _ _ _ _ _ _ _ _ _ _ (fun v w'=>RvStep x g st (offS x .idle i) (offK x .idle i) F w v w') (by rw [hp];decide) (fun w1 hg1=>?_)
 have h1:=h0.keep hg1 (fun _ _ h=>h)
 have hF1:∀ j,F j→j<w1.heap.size:=fun j hj=>Nat.lt_of_lt_of_le (hF j hj) hg1.size
 have hS1:=hS.grow hg1
 have hsg:∀ w',Keep (fun k=>k=g) w1 w'→SliceR 1 (.slice A1 (pageP (szs x.a) i).length c1) (pageP (szs x.a) i).length (ints (pageP (szs x.a) i)) w':=fun w' hk=>(hS1.keep hk (fun j hj e=>hFS j hj (by rw [e];exact h0.fg))).now
 have hw1:=hg1.size
 rw [← hpi] at hS1 hsg
 rw [← hlen,← hpi]
 have hh0:∀ j,j<x.P→(rc.hearing x.pgs.length x.s x.m).h j=false:=fun j _=>by unfold RC.h RC.hearing;split <;> rfl
 have hcon:=zpE hx (rc:=rc.hearing x.pgs.length x.s x.m) (hs:=fun _=>false) hi hh0
 rw [zIG] at hcon
 rw [← hlen] at hcon
 cases hall:allH x (fun j=>j==i) with
 | false =>
  rw [hall] at hcon
  refine (zDG h1.cell x.s x.m x.pgs (by omega) hp h1.part i hil A1 c1 hS1.now hl4 hsg hcon).mono ?_
  rintro e w' ⟨rfl,A,c,G',hr,hH,hk,hG⟩
  have hoff:offS x .idle i=.hear (fun j=>j==i||false):=by simp [offS,hearS,hall]
  obtain ⟨F',h9,hF9,hF10⟩:=zGG hx h1 hF1 hi hh0 (by rw [zIG];exact hall) (rc0:=rc.hearing x.pgs.length x.s x.m) rfl rfl rfl rfl rfl (by rw [← hlen];rfl) rfl rfl rfl hr hH hk (fun j hj=>(hG j hj).elim (fun h=>h.elim) .inr)
  refine ⟨_,rfl,by show RvOut (failK (offS x .idle i)) _ _ _;rw [hoff];rfl,F',by rw [hoff];exact h9,(hg1.mono (T:=F) (fun _ h=>h.elim)).trans hk (fun j e=>.inl (by rw [e];exact h0.fg)),fun j hj=>(hF9 j hj).imp id (fun h=>Nat.le_trans hw1 h),hF10⟩
 | true =>
  rw [hall] at hcon
  by_cases hq:x.q<8*(szs x.a).sum
  ·refine (zBF h1.cell x.s x.m x.pgs (by omega) hp h1.part i hil A1 c1 hS1.now hl4 hsg (szs x.a) hpg hcon (by rw [h1.quota];exact hq)).mono ?_
   rintro e w' ⟨b,rc',rfl,hO,hb,hr,hst,hk⟩
   have hoff:offS x .idle i=.fail 31:=by simp [offS,hearS,hall,hq]
   refine ⟨_,rfl,by show RvOut (failK (offS x .idle i)) _ _ _;rw [hoff];exact ⟨b,_,_,_,rfl,hO,Nat.le_trans hw1 hb⟩,F,by
    rw [hoff]
    exact ⟨rc',hr,hst.trans h1.st,h1.fg,by decide,fun _=>⟨hq,k,Gk,h1.kat.keep hk (fun j hj e=>h1.gk (by rw [← e];exact hj)) (fun j hj e=>h1.gg (by rw [← e];exact hj)),h1.f0,h1.fk,h1.fG⟩⟩,(hg1.mono (T:=F) (fun _ h=>h.elim)).trans hk (fun j e=>.inl (by rw [e];exact h0.fg)),fun j hj=>.inl hj,fun j hj=>Nat.lt_of_lt_of_le (hF1 j hj) hk.size⟩
  ·refine (znG h1.cell x.s x.m x.pgs (by omega) hp h1.part i hil A1 c1 hS1.now hl4 hsg (szs x.a) hpg hcon (by rw [h1.quota];omega) ⟨hx.s0,hx.s1⟩ hx.m (k:=k) (Gk:=Gk) (by rw [h1.st];exact h1.kat) h1.gg (by rw [h1.lo];omega) (by rw [h1.st];exact h1.gk)).mono ?_
   rintro e w' ⟨rfl,rc',b,p,Gp,A,c,m,hr,hst,hqu,hrs,her,hP,hK,hk,hb,hw,hG,hKF⟩
   have hoff:offS x .idle i=.part (makeB x.Q):=by simp [offS,hearS,hall,hq]
   obtain ⟨F',h9,hk9,hF9,hF10⟩:=zHG hx h1 hF1 hr hst hqu her hP hK hk (fun j hj=>hj.elim (fun e=>by rw [e];exact h1.fg) (fun e=>h1.fk j (by rw [← h1.st];exact e))) hb hw hG hKF
   exact ⟨_,rfl,by show RvOut (failK (offS x .idle i)) _ _ _;rw [hoff];rfl,F',by rw [hoff];exact h9,(hg1.mono (T:=F) (fun _ h=>h.elim)).trans hk9 (fun j e=>.inl e),fun j hj=>(hF9 j hj).imp id (fun h=>Nat.le_trans hw1 h),hF10⟩
theorem zEF {x:RX} (hx:x.Ok) {g st:Nat} {F:Nat→Prop} {w:World} (hF:∀ j,F j→j<w.heap.size) (i:Nat) (hi:i<x.P) (A1:Option Addr) (c1:Nat) {FS:Nat→Prop} (hS:Foot (SliceR 1 (.slice A1 (pageP (szs x.a) i).length c1) (pageP (szs x.a) i).length (ints (pageP (szs x.a) i))) w FS) (hFS:∀ j,FS j→¬ F j) {hs:Nat→Bool} (h:RvI x g st (.hear hs) F w) :
    Calls Tryz.prog 39 #[.pointer (some ⟨g,0,none⟩),.agg #[.int .i64 1,.int .u64 x.s,.int .i64 i,.int .i64 x.P,.int .u32 (x.m:Nat),.slice A1 (pageP (szs x.a) i).length c1,.slice none 0 0]] w fun e w'=>∃ v,e=.returned v∧RvStep x g st (offS x (.hear hs) i) (offK x (.hear hs) i) F w v w':=by
 have hI:=h
 obtain ⟨rc,k,Gk,G,h0,hp,hof,hs_,hm_,hH0,hgG,hG0,hh0,hal⟩:=h
 have h4:=hx.small.2.1
 have hpg:=hx.pages
 have hlen:=x.pgs_length
 have hil:i<x.pgs.length:=by omega
 have hpi:=x.pgs_get i hil
 have hl4:(x.pgs[i]'hil).length≤4:=by rw [hpi];exact znC _ _
 refine zFC h0.cell _ _ _ _ _ _ _ _ _ _ (fun v w'=>RvStep x g st (offS x (.hear hs) i) (offK x (.hear hs) i) F w v w') (by rw [hp];decide) (fun w1 hg1=>?_)
 have h1:=h0.keep hg1 (fun _ _ h=>h)
 have hF1:∀ j,F j→j<w1.heap.size:=fun j hj=>Nat.lt_of_lt_of_le (hF j hj) hg1.size
 have hS1:=hS.grow hg1
 have hsg:∀ w',Keep (fun k=>k=g) w1 w'→SliceR 1 (.slice A1 (pageP (szs x.a) i).length c1) (pageP (szs x.a) i).length (ints (pageP (szs x.a) i)) w':=fun w' hk=>(hS1.keep hk (fun j hj e=>hFS j hj (by rw [e];exact h0.fg))).now
 have hw1:=hg1.size
 have hH1:=hH0.keep hg1 (fun _ _ h=>h)
 by_cases hhi:hs i=true
 ·have hoff:offS x (.hear hs) i=.hear hs:=by simp [offS,hhi]
  have hok:offK x (.hear hs) i=none:=by show failK (offS x (.hear hs) i)=none;rw [hoff];rfl
  rw [hoff,hok,← hs_,← hm_]
  refine (zBG h1.cell hp h1.part x.P i (by rw [hof]) (by omega) h4 hi (by rw [hh0 i hi];exact hhi) A1 none _ c1 0 0).mono ?_
  rintro e w' ⟨rfl,hg⟩
  exact ⟨_,rfl,RvStep.same hI hF (hg1.grow hg)⟩
 have hhf:hs i=false:=by simpa using hhi
 have hrh:rc.h i=false:=by rw [hh0 i hi];exact hhf
 rw [← hpi] at hS1 hsg
 rw [← hlen,← hpi]
 have hcon:=zpE hx (rc:=rc) (hs:=hs) hi hh0
 rw [← hlen] at hcon
 have hof1:rc.of=(x.pgs.length:Int):=by rw [hof,hlen]
 cases hall:allH x (fun j=>j==i||hs j) with
 | false =>
  rw [hall] at hcon
  refine (zCG h1.cell x.s x.m x.pgs (by omega) hp h1.part hof1 hs_ hm_ i hil hrh hH1 hgG A1 c1 hS1.now hl4 hsg hcon).mono ?_
  rintro e w' ⟨rfl,A,c,G',hr,hH,hk,hG⟩
  have hoff:offS x (.hear hs) i=.hear (fun j=>j==i||hs j):=by simp [offS,hhf,hearS,hall]
  obtain ⟨F',h9,hF9,hF10⟩:=zGG hx h1 hF1 hi hh0 hall (rc0:=rc) rfl rfl rfl rfl hp hof hs_ hm_ rfl hr hH hk (fun j hj=>(hG j hj).imp (fun h=>⟨(hG0 j h).1,(hG0 j h).2,fun e=>hgG (by rw [← e];exact h)⟩) id)
  refine ⟨_,rfl,by show RvOut (failK (offS x (.hear hs) i)) _ _ _;rw [hoff];rfl,F',by rw [hoff];exact h9,(hg1.mono (T:=F) (fun _ h=>h.elim)).trans hk (fun j e=>.inl (by rw [e];exact h0.fg)),fun j hj=>(hF9 j hj).imp id (fun h=>Nat.le_trans hw1 h),hF10⟩
 | true =>
  rw [hall] at hcon
  by_cases hq:x.q<8*(szs x.a).sum
  ·refine (zAF h1.cell x.s x.m x.pgs (by omega) hp h1.part hof1 hs_ hm_ i hil hrh hH1 hgG A1 c1 hS1.now hl4 hsg (szs x.a) hpg hcon (by rw [h1.quota];exact hq)).mono ?_
   rintro e w' ⟨b,rc',rfl,hO,hb,hr,hst,hk⟩
   have hoff:offS x (.hear hs) i=.fail 31:=by simp [offS,hhf,hearS,hall,hq]
   refine ⟨_,rfl,by show RvOut (failK (offS x (.hear hs) i)) _ _ _;rw [hoff];exact ⟨b,_,_,_,rfl,hO,Nat.le_trans hw1 hb⟩,F,by
    rw [hoff]
    exact ⟨rc',hr,hst.trans h1.st,h1.fg,by decide,fun _=>⟨hq,k,Gk,h1.kat.keep hk (fun j hj e=>h1.gk (by rw [← e];exact hj)) (fun j hj e=>h1.gg (by rw [← e];exact hj)),h1.f0,h1.fk,h1.fG⟩⟩,(hg1.mono (T:=F) (fun _ h=>h.elim)).trans hk (fun j e=>.inl (by rw [e];exact h0.fg)),fun j hj=>.inl hj,fun j hj=>Nat.lt_of_lt_of_le (hF1 j hj) hk.size⟩
  ·refine (zmG h1.cell x.s x.m x.pgs (by omega) hp h1.part hof1 hs_ hm_ i hil hrh hH1 hgG A1 c1 hS1.now hl4 hsg (szs x.a) hpg hcon (by rw [h1.quota];omega) ⟨hx.s0,hx.s1⟩ hx.m (k:=k) (Gk:=Gk) (by rw [h1.st];exact h1.kat) h1.gg (by rw [h1.lo];omega) (by rw [h1.st];exact h1.gk) (fun j hj=>by rw [h1.st];exact (hG0 j hj).2)).mono ?_
   rintro e w' ⟨rfl,rc',b,p,Gp,A,c,m,hr,hst,hqu,hrs,her,hP,hK,hk,hb,hw,hG,hKF⟩
   have hoff:offS x (.hear hs) i=.part (makeB x.Q):=by simp [offS,hhf,hearS,hall,hq]
   obtain ⟨F',h9,hk9,hF9,hF10⟩:=zHG hx h1 hF1 hr hst hqu her hP hK hk (fun j hj=>hj.elim (fun e=>by rw [e];exact h1.fg) (fun e=>h1.fk j (by rw [← h1.st];exact e))) hb hw hG hKF
   exact ⟨_,rfl,by show RvOut (failK (offS x (.hear hs) i)) _ _ _;rw [hoff];rfl,F',by rw [hoff];exact h9,(hg1.mono (T:=F) (fun _ h=>h.elim)).trans hk9 (fun j e=>.inl e),fun j hj=>(hF9 j hj).imp id (fun h=>Nat.le_trans hw1 h),hF10⟩
theorem zTK {x:RX} (hx:x.Ok) {g st:Nat} {F:Nat→Prop} {w:World} (hF:∀ j,F j→j<w.heap.size) (i:Nat) (hi:i<x.P) (A1:Option Addr) (c1:Nat) {FS:Nat→Prop} (hS:Foot (SliceR 1 (.slice A1 (pageP (szs x.a) i).length c1) (pageP (szs x.a) i).length (ints (pageP (szs x.a) i))) w FS) (hFS:∀ j,FS j→¬ F j) {s:RSt} (h:RvI x g st s F w) :
    Calls Tryz.prog 39 #[.pointer (some ⟨g,0,none⟩),.agg #[.int .i64 1,.int .u64 x.s,.int .i64 i,.int .i64 x.P,.int .u32 (x.m:Nat),.slice A1 (pageP (szs x.a) i).length c1,.slice none 0 0]] w fun e w'=>∃ v,e=.returned v∧RvStep x g st (offS x s i) (offK x s i) F w v w':=by
 have hpart:∀ {rc:RC} {b:Nat} {p:PP} {kb:List Int} {G:Nat→Prop} {k:KS} {Gk:Nat→Prop},Rv1 x g st rc b p kb G k Gk F w→rc.phase≠3→rc.phase≠0→∀ (R:Value→World→Prop),(∀ w',Rv1 x g st { rc with resumed:=false,closed:=false } b p kb G k Gk F w'→Keep (fun j=>j=g) w w'→R (.slice none 0 0) w') →
  Calls Tryz.prog 39 #[.pointer (some ⟨g,0,none⟩),.agg #[.int .i64 1,.int .u64 x.s,.int .i64 i,.int .i64 x.P,.int .u32 (x.m:Nat),.slice A1 (pageP (szs x.a) i).length c1,.slice none 0 0]] w fun e w'=>∃ v,e=.returned v∧R v w':=fun {rc b p kb G k Gk} h1 hp3 hp0 R hR=>by
   have hgs:=h1.at_.cell.lt
   refine zFC h1.at_.cell _ _ _ _ _ _ _ _ _ _ R hp3 (fun w1 hg1=>?_)
   have h2:=h1.keep hg1 (fun _ _ h=>h)
   rw [← h1.s,← h1.m]
   refine (zqG h2.at_.cell hp0 h1.at_.part i x.P A1 none _ c1 0 0).mono ?_
   rintro e w' ⟨rfl,hr,hk⟩
   have hgb:=h2.at_.gb
   refine ⟨_,rfl,hR w' ⟨⟨hr,h1.at_.part,h2.at_.pat.keep hk (fun e=>hgb.1 e.symm) (fun e=>hgb.2.1 e.symm) (fun j hj e=>hgb.2.2.1 (by rw [← e];exact hj)),h2.at_.kat.keep hk (fun j hj e=>hgb.2.2.2.1 (by rw [← e];exact hj)) (fun j hj e=>hgb.2.2.2.2 (by rw [← e];exact hj)),hgb,h2.at_.kf,h2.at_.kg⟩,h1.st,h1.quota,h1.s,h1.m,h1.err,h1.ok,h1.lo,h1.n,h1.f1,h1.f2,h1.f3⟩ ((hg1.mono (T:=fun j=>j=g) (fun _ h=>h.elim)).trans hk (fun j e=>.inl e))⟩
 cases s with
 | idle=>exact zDF hx hF i hi A1 c1 hS hFS h
 | hear hs=>exact zEF hx hF i hi A1 c1 hS hFS h
 | part kb =>
  obtain ⟨rc,b,p,G,k,Gk,h1,hp,hno⟩:=h
  refine hpart h1 (by rw [hp];decide) (by rw [hp];decide) _ (fun w' h2 hk=>⟨rfl,F,⟨_,b,p,G,k,Gk,h2,hp,hno⟩,hk.mono (fun j e=>by rw [e];exact h1.f1 g (.inl rfl)),fun j hj=>.inl hj,fun j hj=>Nat.lt_of_lt_of_le (hF j hj) hk.size⟩)
 | ready =>
  obtain ⟨rc,b,p,kb,G,k,Gk,h1,hp,hal⟩:=h
  refine hpart h1 (by rw [hp];decide) (by rw [hp];decide) _ (fun w' h2 hk=>⟨rfl,F,⟨_,b,p,kb,G,k,Gk,h2,hp,hal⟩,hk.mono (fun j e=>by rw [e];exact h1.f1 g (.inl rfl)),fun j hj=>.inl hj,fun j hj=>Nat.lt_of_lt_of_le (hF j hj) hk.size⟩)
 | fail e =>
  have hI:=h
  obtain ⟨rc,h0,_⟩:=h
  refine (zDD h0 x.s i x.P x.m A1 none _ c1 0 0 rfl 1).mono ?_
  rintro e w' ⟨rfl,hg⟩
  exact ⟨_,rfl,RvStep.same hI hF hg⟩
theorem KMap.has {D:DataW Unit} {f:Nat→Option Ck} (h:∀ k,okI k→∀ z,D.atKey (.int .i64 k) z=atF f k z) {i:Nat} (hi:i<512):Maps.has D (.int .i64 i)=(f i).isSome:=by
 have hok:okI (i:Int):=zmE hi
 have h0:(0:Int)≤i:=by omega
 cases hf:f i with
 | none=>exact Maps.has_false_of_atKey (fun z=>by rw [h _ hok];unfold atF;rw [if_pos h0,Int.toNat_natCast,hf])
 | some x=>exact Maps.has_true_of_atKey (y:=x.d) (fun z=>by rw [h _ hok];unfold atF;rw [if_pos h0,Int.toNat_natCast,hf])
def E99 (e:Int):Prop:=0≤e∧e≤29
theorem e99_0:E99 0:=⟨by decide,by decide⟩
theorem zCJ:E99 20:=⟨by decide,by decide⟩
theorem zED:E99 23:=⟨by decide,by decide⟩
theorem zjD (x:Int):E99 (ptrDec x).2:=by
 unfold ptrDec
 repeat' split
 all_goals first | exact e99_0 | exact zED
theorem zCL (a:List (List Int)) (s x:Int):E99 (wordA a s x).2:=by
 unfold wordA
 split
 ·exact e99_0
 ·exact zCJ
theorem zwH (p:Pt):E99 (ptrWords p).2:=by
 unfold ptrWords
 repeat' split
 all_goals first | exact e99_0 | exact zED
theorem zMH {wd:Int→Int→Int×Int} (h:∀ s x,E99 (wd s x).2) (s x:Int):E99 (ptrAt wd s x).2:=by
 unfold ptrAt
 split
 ·exact zjD _
 ·exact h _ _
theorem zkD (sz:List Int) (p:Pt) (s x:Int):E99 (foundP sz p s x).2:=by
 unfold foundP
 repeat' split
 ·exact e99_0
 ·exact zCJ
 ·exact zwH _
theorem zDJ (sz:List Int) {wd:Int→Int→Int×Int} (h:∀ s x,E99 (wd s x).2) (p:Pt):E99 (landedP sz wd p).2:=by
 unfold landedP
 repeat' split
 ·exact zkD _ _ _ _
 ·exact zED
 ·exact zMH h _ _
theorem zUK (sz:List Int) {wd:Int→Int→Int×Int} (h:∀ s x,E99 (wd s x).2) (p:Pt):E99 (twiceP sz wd p).2:=by
 unfold twiceP
 repeat' split
 ·exact zkD _ _ _ _
 ·exact zED
 ·exact zjD _
 ·exact zjD _
 ·exact h _ _
 ·exact h _ _
theorem zEJ (sz:List Int) {wd:Int→Int→Int×Int} (h:∀ s x,E99 (wd s x).2) (s x:Int):E99 (followP sz wd s x).2:=by
 unfold followP
 repeat' split
 ·exact zkD _ _ _ _
 ·exact zUK _ h _
 ·exact zDJ _ h _
 ·exact zMH h _ _
theorem zNH {f:Int→Int→Tr×Int×Int} (hf:∀ x p,E99 (f x p).2.1) (at0 p0:Int):∀ k,E99 (kidsK f at0 p0 k).2.1
 | 0=>e99_0
 | k+1=>by
  unfold kidsK
  repeat' split
  ·exact e99_0
  ·exact hf _ _
  ·exact zNH hf at0 p0 k
theorem zDL (wd:Int→Int→Int×Int) {f:Int→Int→Int→Tr×Int×Int} (hf:∀ s x p,E99 (f s x p).2.1) (o:Ob) (p:Int):E99 (nodeT wd f o p).2.1:=by
 unfold nodeT
 have hk:=zNH (f:=f o.seg) (hf _) (if o.size=6 then o.at_ else o.at_+o.data) p (if o.size=6 then o.count else o.ptrs).toNat
 generalize kidsK (f o.seg) (if o.size=6 then o.at_ else o.at_+o.data) p (if o.size=6 then o.count else o.ptrs).toNat=K at hk ⊢
 by_cases h:K.2.1=0
 ·rw [if_pos h];exact e99_0
 ·rw [if_neg h];exact hk
theorem zOH (sz:List Int) {wd:Int→Int→Int×Int} (h:∀ s x,E99 (wd s x).2) (last:Bool) {f:Int→Int→Int→Tr×Int×Int} (hf:∀ s x p,E99 (f s x p).2.1) (s x p:Int):E99 (nodeS sz wd last f s x p).2.1:=by
 unfold nodeS
 repeat' split
 ·exact (show E99 21 from ⟨by decide,by decide⟩)
 ·exact (show E99 22 from ⟨by decide,by decide⟩)
 ·exact zDL _ hf _ _
 ·exact zEJ _ h _ _
theorem zPH (sz:List Int) {wd:Int→Int→Int×Int} (h:∀ s x,E99 (wd s x).2):∀ (l:Nat) (s x p:Int),E99 (nodeP sz wd l s x p).2.1
 | 0,s,x,p=>zOH sz h true (fun _ _ _=>e99_0) s x p
 | l+1,s,x,p=>zOH sz h false (zPH sz h l) s x p
theorem zqE (a:List (List Int)):0≤checkP a∧checkP a≤29:=by
 have hd:E99 (decP a).2:=by
  unfold decP
  split
  ·exact zPH _ (zCL a) _ _ _ _
  ·exact ⟨by decide,by decide⟩
 unfold checkP
 repeat' split
 ·exact e99_0
 ·exact zED
 ·exact hd
def phaseS:RSt→Int
 | .idle=>0
 | .hear _=>1
 | .part _=>1
 | .ready=>2
 | .fail _=>3
def errS:RSt→Int
 | .fail e=>e
 | _=>0
theorem zPL {win back retry:Int} {x:RX} (hc:OkC win back retry x.q) {s:Nat} {k:KS} {w:World} (h:KAt s k NoB w) (hf:k.f=fun _=>none) (hnt:k.nt=⟨none,0,0⟩) (hlo:k.lo=⟨none,0,0⟩) (hn:k.n=0) :
    Calls Tryz.prog 35 #[.agg #[.int .i64 win,.int .i64 back,.int .i64 retry,.int .i64 x.q],.pointer (some ⟨s,0,none⟩)] w fun e w'=>∃ g F,e=.returned (.tuple #[.pointer (some ⟨g,0,none⟩),.int .u16 0])∧Grow w w'∧RvI x g s .idle F w'∧(∀ j,F j→w.heap.size≤j∨KF s k j)∧∀ j,F j→j<w'.heap.size:=by
 refine (zAE hc h hnt).mono ?_
 rintro e w' ⟨g,rfl,hr,hg,hgs⟩
 have hsm:=h.small
 have hk:=h.grow hg
 refine ⟨g,fun j=>j=g∨KF s k j,rfl,hg,⟨_,k,NoB,⟨hr,rfl,rfl,hk,fun e=>by have:=hsm g e;omega,fun e=>e,.inl rfl,fun j hj=>.inr hj,fun j hj=>hj.elim,hn,hf,by rw [hlo],rfl,rfl⟩,rfl⟩,fun j hj=>hj.imp (fun e=>by rw [e];exact hgs) id,fun j hj=>hj.elim (fun e=>by rw [e];exact hr.lt) (hk.small j)⟩
theorem zFD {x:RX} {g st:Nat} {s:RSt} {F:Nat→Prop} {w:World} (h:RvI x g st s F w):Calls Tryz.prog 43 #[.pointer (some ⟨g,0,none⟩)] w fun e w'=>(∃ a b:Int,e=.returned (.agg #[.int .i64 (phaseS s),.int .u16 (errS s),.int .i64 a,.int .i64 b]))∧Grow w w':=by
 cases s with
 | idle =>
  obtain ⟨rc,k,Gk,h0,hp⟩:=h
  have:=zEC h0.cell h0.part
  rw [hp,h0.err] at this
  exact this.mono fun e w' ⟨h1,h2⟩=>⟨⟨_,_,h1⟩,h2⟩
 | hear hs =>
  obtain ⟨rc,k,Gk,G,h0,hp,_⟩:=h
  have:=zEC h0.cell h0.part
  rw [hp,h0.err] at this
  exact this.mono fun e w' ⟨h1,h2⟩=>⟨⟨_,_,h1⟩,h2⟩
 | part kb =>
  obtain ⟨rc,b,p,G,k,Gk,h0,hp,_⟩:=h
  have:=zaC h0.at_.cell h0.at_.part h0.at_.pat
  rw [hp,h0.err] at this
  exact this.mono fun e w' ⟨h1,h2⟩=>⟨⟨_,_,h1⟩,h2⟩
 | ready =>
  obtain ⟨rc,b,p,kb,G,k,Gk,h0,hp,_⟩:=h
  have:=zaC h0.at_.cell h0.at_.part h0.at_.pat
  rw [hp,h0.err] at this
  exact this.mono fun e w' ⟨h1,h2⟩=>⟨⟨_,_,h1⟩,h2⟩
 | fail e =>
  obtain ⟨rc,h0,_⟩:=h
  exact (zEC h0 rfl).mono fun e w' ⟨h1,h2⟩=>⟨⟨_,_,h1⟩,h2⟩
def pgS (x:RX):Nat→RSt
 | 0=>.idle
 | i+1=>offS x (pgS x i) i
def chS (x:RX):Nat→RSt
 | 0=>.part (makeB x.Q)
 | i+1=>datS x (chS x i) i
def lenK:Option Int→Int
 | none=>0
 | some _=>1
theorem zVK {x:RX} {hs:Nat→Bool} {i:Nat} (h:∀ j,hs j=decide (j<i)) (hi:i<x.P):hearS x hs=.hear hs:=by
 unfold hearS
 rw [if_neg]
 intro ha
 unfold allH at ha
 rw [List.all_eq_true] at ha
 have:=ha i (List.mem_range.2 hi)
 rw [h] at this
 simp at this
theorem zFJ {x:RX} {hs:Nat→Bool} (h:∀ j,hs j=decide (j<x.P)) (hq:8*(szs x.a).sum≤x.q):hearS x hs=.part (makeB x.Q):=by
 unfold hearS
 rw [if_pos,if_neg (by omega)]
 unfold allH
 rw [List.all_eq_true]
 intro j hj
 rw [h,decide_eq_true (List.mem_range.1 hj)]
theorem zGJ {x:RX} (hx:x.Ok) (hq:8*(szs x.a).sum≤x.q):∀ i,i≤x.P→(i<x.P→(i=0∧pgS x i=.idle)∨∃ hs,pgS x i=.hear hs∧∀ j,hs j=decide (j<i))∧(i=x.P→pgS x i=.part (makeB x.Q))
 | 0,_=>⟨fun _=>.inl ⟨rfl,rfl⟩,fun h=>by have:=hx.small.1;omega⟩
 | i + 1, hi => by
  have key:∃ hs:Nat→Bool,pgS x (i+1)=hearS x hs∧∀ j,hs j=decide (j<i+1):=by
   rcases (zGJ hx hq i (by omega)).1 (by omega) with ⟨rfl,e⟩ | ⟨hs,e,hh⟩
   ·refine ⟨fun j=>j==0,?_,fun j=>?_⟩
    ·rw [pgS,e];rfl
    ·rw [Bool.eq_iff_iff];simp
   ·refine ⟨fun j=>j==i||hs j,?_,fun j=>?_⟩
    ·rw [pgS,e]
     unfold offS
     simp only
     rw [if_neg (by rw [hh];simp)]
    ·simp only [hh]
     rw [Bool.eq_iff_iff]
     simp
     omega
  obtain ⟨hs,e,hh⟩:=key
  refine ⟨fun hlt=>.inr ⟨hs,?_,hh⟩,fun he=>?_⟩
  ·rw [e,zVK hh hlt]
  ·rw [e,zFJ (by rw [← he];exact hh) hq]
theorem zJG {x:RX} (hx:x.Ok):∀ i,i≤x.Q→(i<x.Q→∃ kb,chS x i=.part kb∧BitsOk kb x.Q∧∀ j,j<x.Q→getB kb j=decide (j<i))∧(i=x.Q→chS x i=endS x)
 | 0,_=>⟨fun _=>⟨_,rfl,BitsOk.make _,fun j _=>by rw [zrB];simp⟩,fun h=>by have:=hx.small;omega⟩
 | i + 1, hi => by
  obtain ⟨kb,e,hb,hg⟩:=(zJG hx i (by omega)).1 (by omega)
  have hb2:=hb.set (show i<x.Q by omega)
  have hg2:∀ j,j<x.Q→getB (setB kb i) j=decide (j<i+1):=fun j hj=>by
   rw [zUB,hg j hj,Bool.eq_iff_iff]
   have:=hb.len
   simp
   omega
  have hstep:chS x (i+1)=if popB (setB kb i)<x.Q then .part (setB kb i) else endS x:=by
   rw [chS,e]
   unfold datS
   simp only
   rw [if_neg (by rw [hg i (by omega)];simp)]
  refine ⟨fun hlt=>⟨setB kb i,?_,hb2,hg2⟩,fun he=>?_⟩
  ·rw [hstep,if_pos]
   rcases Nat.lt_or_ge (popB (setB kb i)) x.Q with h9 | h9
   ·exact h9
   ·have h8:=hb2.full.1 h9 (i+1) hlt
    rw [hg2 _ hlt] at h8
    simp at h8
  ·rw [hstep,if_neg]
   have h9:=hb2.full.2 (fun j hj=>by rw [hg2 j hj,decide_eq_true (by omega)])
   omega
theorem zEL {x:RX} (hx:x.Ok) (i:Nat) (hi:i<x.Q):datK x (chS x i) i=failK (chS x (i+1)):=by
 obtain ⟨kb,e,_⟩:=(zJG hx i (by omega)).1 hi
 rw [chS,e]
 rfl
theorem RvOut.len {kd:Option Int} {w0 w:World} {v:Value} (h:RvOut kd w0 v w):∃ (A:Option Addr) (n c:Nat),v=.slice A n c∧(n:Int)=lenK kd:=by
 cases kd with
 | none=>exact ⟨none,0,0,h,rfl⟩
 | some k =>
  obtain ⟨b,s,i,m,rfl,_⟩:=h
  exact ⟨_,1,1,rfl,rfl⟩
theorem zHJ {g:Nat} {d:RC} {w:World} (h:RCell g d w) (hp:d.phase≠2):Calls Tryz.prog 42 #[.pointer (some ⟨g,0,none⟩)] w fun e w'=>e=.returned (.tuple #[.slice none 0 0,.bool false])∧w=w':=by
 obtain ⟨c0,c1,c2,c3,c4,c5,c6,c7,c8,c9,c10,c11,c12,c13,c14,c15,c16,c17,c18,c19,c20,cf⟩:=zH h
 have hb:(d.phase != 2)=true:=bne_iff_ne.2 hp
 clear h
 go_enter Tryz.func42,Tryz.ntmps42
 go_wp2
 go_ret2
 exact ⟨rfl,rfl⟩
theorem zxH {g b:Nat} {rc:RC} {p:PP} {d:Par} {G:Nat→Prop} {w:World} (h:RCell g rc w) (hp:rc.phase=2) (hpa:rc.part=some ⟨b,0,none⟩) (hP:PAt b p d G w) (hall:chunksN d.sz≤popB d.known):Calls Tryz.prog 42 #[.pointer (some ⟨g,0,none⟩)] w fun e w'=>∃ A c F,e=.returned (.tuple #[.slice A (arenaW d.words d.sz).length c,.bool true])∧Grow w w'∧Foot (RowsR .u64 (arenaW d.words d.sz) (.slice A (arenaW d.words d.sz).length c)) w' F∧∀ k,F k→w.heap.size≤k:=by
 obtain ⟨c0,c1,c2,c3,c4,c5,c6,c7,c8,c9,c10,c11,c12,c13,c14,c15,c16,c17,c18,c19,c20,cf⟩:=zH h
 rw [hp] at c6
 rw [hpa] at c0
 have HP:=LH (zzC hP hall)
 clear h hp hpa hP hall
 go_enter Tryz.func42,Tryz.ntmps42
 go_wp2_with fail
 refine HP.out.mono ?_
 rintro e w1 ⟨A,c,F,rfl,hg,hF,hn⟩
 have HFIN:=LH (And.intro hg (And.intro hF hn))
 clear hg hF hn
 go_wp2
 go_ret2
 exact ⟨A,c,F,rfl,HFIN.out.1,HFIN.out.2.1,HFIN.out.2.2⟩
theorem zlD {x:RX} (hx:x.Ok) {g st:Nat} {s:RSt} {F:Nat→Prop} {w:World} (h:RvI x g st s F w):Calls Tryz.prog 42 #[.pointer (some ⟨g,0,none⟩)] w fun e w'=>Grow w w'∧((s=.ready∧∃ A c,e=.returned (.tuple #[.slice A x.a.length c,.bool true])∧RowsR .u64 x.a (.slice A x.a.length c) w')∨(phaseS s≠2∧e=.returned (.tuple #[.slice none 0 0,.bool false]))):=by
 have hno:∀ {rc:RC},RCell g rc w→rc.phase≠2→phaseS s≠2→Calls Tryz.prog 42 #[.pointer (some ⟨g,0,none⟩)] w fun e w'=>Grow w w'∧((s=.ready∧∃ A c,e=.returned (.tuple #[.slice A x.a.length c,.bool true])∧RowsR .u64 x.a (.slice A x.a.length c) w')∨(phaseS s≠2∧e=.returned (.tuple #[.slice none 0 0,.bool false]))):=fun {rc} hc hp hps=>by
  refine (zHJ hc hp).mono ?_
  rintro e w' ⟨rfl,rfl⟩
  exact ⟨Keep.refl _ _,.inr ⟨hps,rfl⟩⟩
 cases s with
 | idle =>
  obtain ⟨rc,k,Gk,h0,hp⟩:=h
  exact hno h0.cell (by omega) (by decide)
 | hear hs =>
  obtain ⟨rc,k,Gk,G,h0,hp,_⟩:=h
  exact hno h0.cell (by omega) (by simp [phaseS])
 | part kb =>
  obtain ⟨rc,b,p,G,k,Gk,h0,hp,_⟩:=h
  exact hno h0.at_.cell (by omega) (by simp [phaseS])
 | ready =>
  obtain ⟨rc,b,p,kb,G,k,Gk,h0,hp,hall,_⟩:=h
  refine (zxH h0.at_.cell hp h0.at_.part h0.at_.pat (h0.ok.full.2 hall)).mono ?_
  rintro e w' ⟨A,c,F',rfl,hg,hF,_⟩
  have hQ:x.Q=(x.a.flatten.length+7)/8:=hx.small.2.2.2.2.2.2
  have e1:arenaW (parD x kb).words (parD x kb).sz=x.a:=by
   show arenaW (wordsK x.a.flatten kb) (szs x.a)=x.a
   rw [zDE (fun i hi=>hall i (by omega)),zYD]
  rw [e1] at hF ⊢
  exact ⟨hg,.inl ⟨rfl,A,c,rfl,hF.now⟩⟩
 | fail e =>
  obtain ⟨rc,h0,_⟩:=h
  exact hno h0 (by show ((3:Int)≠2);decide) (by simp [phaseS])
theorem zWK {g b:Nat} {rc:RC} {p:PP} {d:Par} {G:Nat→Prop} {k:KS} {Gk:Nat→Prop} {w:World} (h:RcvAt g rc b p d G k Gk w) (hph:rc.phase=1) (hkn:k.lo.n≤4096) (hkn2:k.n≤4096) (i:Nat) (hi:i<chunksN d.sz) (hgb:getB d.known i=false) (session:Int) (sum:Nat) (bs:List Int) (hb:OkB bs) (hl:(bs.length:Int)=sizeN d.sz i) (hno:popB (setB d.known i)<chunksN d.sz) (A2:Option Addr) (c2':Nat) (FS:Nat→Prop) (hS:Foot (SliceR 1 (.slice A2 bs.length c2') bs.length (u8s bs)) w FS) (hFS:∀ j,FS j→¬ RF g rc.st b p k j) :
    Calls Tryz.prog 110 #[.pointer (some ⟨g,0,none⟩),.agg #[.int .i64 2,.int .u64 session,.int .i64 i,.int .i64 (chunksN d.sz:Nat),.int .u32 (sum:Nat),.slice none 0 0,.slice A2 bs.length c2']] w fun e w'=>e=.returned (.slice none 0 0)∧∃ p' G' k' Gk',RcvAt g { rc with closed:=false,resumed:=false } b p' (d.more i bs) G' k' Gk' w'∧Keep (RF g rc.st b p k) w w'∧p'.wb=p.wb∧k'.lo.n=k.lo.n+1∧k'.n=k.n+1∧k'.nt=k.nt∧∀ j,(RF g rc.st b p' k' j∨G' j∨Gk' j)→(RF g rc.st b p k j∨G j∨Gk j)∨w.heap.size≤j:=by
 have hg0:=(Keep.refl NoB w).alloc (.cells #[.int .i64 2,.int .u64 session,.int .i64 i,.int .i64 (chunksN d.sz:Nat),.int .u32 (sum:Nat),.slice none 0 0,.slice A2 bs.length c2'] 46)
 have HZ:=LH (heap_alloc_new w (.cells #[.int .i64 2,.int .u64 session,.int .i64 i,.int .i64 (chunksN d.sz:Nat),.int .u32 (sum:Nat),.slice none 0 0,.slice A2 bs.length c2'] 46))
 have HLT:Hid (g<w.heap.size):=LH h.cell.lt
 have H:=LH (h.grow hg0)
 have HG:=LH hg0
 have HGB:=LH hgb
 have HBB:=LH (And.intro hb hl)
 have HS:=LH (hS.grow hg0)
 have HFS:Hid (∀ j,FS j→¬ j=g∧¬ RF g rc.st b p k j):=LH (fun j hj=>⟨fun e=>hFS j hj (.inl e),hFS j hj⟩)
 have hfew:=h.pat.ok.few
 have hlen:0<bs.length∧bs.length≤64:=by
  have h1:=zN h.pat.ok.fit
  have h2:0≤d.sz.sum:=zeA h1.2.2.1
  unfold chunksN at hi
  unfold sizeN at hl
  omega
 have HBP:Hid (w.heap.size≠b∧w.heap.size≠p.wb):=LH (by have:=h.pat.lt;omega)
 clear hgb hb hl hS hFS
 clear h hg0
 go_enter Tryz.func110,Tryz.ntmps110
 obtain ⟨c0,c1,c2,c3,c4,c5,c6,c7,c8,c9,c10,c11,c12,c13,c14,c15,c16,c17,c18,c19,c20,cf⟩:=zH H.out.cell
 go_wp2
 have h2:=H.out.put (rc':={ rc with closed:=false }) 20 (.bool false) rfl rfl rfl
 have HGN:Hid (¬ w.heap.size=g):=LH (fun e=>by have:=HLT.out;omega)
 replace HZ:=LH ((h2.2.block _ (gE HZ.out).1 HGN.out).trans HZ.out)
 have HK:=LH ((HG.out.mono (T:=fun k=>k=g) (fun _ h=>h.elim)).trans h2.2 (fun _ h=>.inl h))
 replace HS:=LH (HS.out.keep h2.2 (fun j hj=>(HFS.out j hj).1))
 replace H:=LH h2.1
 clear h2 HG c0 c1 c2 c3 c4 c5 c6 c7 c8 c9 c10 c11 c12 c13 c14 c15 c16 c17 c18 c19 c20 cf
 generalize (w.alloc (.cells #[.int .i64 2,.int .u64 session,.int .i64 i,.int .i64 (chunksN d.sz:Nat),.int .u32 (sum:Nat),.slice none 0 0,.slice A2 bs.length c2'] 46)).setCell ⟨g,20,none⟩ (.bool false)=w2 at H HZ HK HS ⊢
 obtain ⟨c0,c1,c2,c3,c4,c5,c6,c7,c8,c9,c10,c11,c12,c13,c14,c15,c16,c17,c18,c19,c20,cf⟩:=zH H.out.cell
 rw [show ({ rc with closed:=false }:RC).part=some ⟨b,0,none⟩ from H.out.part] at c0
 rw [show ({ rc with closed:=false }:RC).phase=1 from hph] at c6
 obtain ⟨z0,z1,z2,z3,z4,z5,z6,zf⟩:=zC HZ.out
 go_wp2
 refine zD [0,1,2,3,4,5,6,7,8,9,10,11,12,13,14,15,16,17,18,19,20,21,22] [19,20] [3,9,14,18] [] rfl (by kernel_rfl) ?_
 iterate 3
  refine ord_p ?_
 refine ord_r (y:=by intro w' hg;have q:=hg.cell c6 (fun h=>h);go_simp;with_reducible rfl) (z:=?_)
 iterate 2
  refine ord_p ?_
 iterate 3
  refine zS ?_
 refine zY (y:=by intro w' hg;have q:=hg.cell c0 (fun h=>h);go_simp;with_reducible rfl) (z:=?_)
 refine zS ?_
 iterate 2
  refine ord_p ?_
 refine zS ?_
 refine zY (y:=by intro w' hg;have q:=hg.cell z3 (fun h=>h);go_simp;with_reducible rfl) (z:=?_)
 iterate 3
  refine zS ?_
 refine zY (y:=by intro w' hg;have q:=hg.cell c0 (fun h=>h);go_simp;with_reducible rfl) (z:=?_)
 refine zAA rfl rfl rfl rfl rfl Tryz.func118 rfl rfl [.pointer (some ⟨b,0,none⟩)] rfl ?_
 refine (zkA (H.out.pat.grow (Keep.refl NoB w2).drew)).mono ?_
 rintro e w3 ⟨A4,c4',rfl,hg4,ho4⟩
 refine ⟨_,rfl,fun _=>hg4,?_⟩
 simp only [Act.put,pB,pC,pD]
 refine zAA rfl rfl rfl rfl rfl Tryz.func64 rfl rfl [.agg #[.int .u64 d.session,.slice A4 d.sz.length c4',.int .u32 (d.sum:Nat)]] rfl ?_
 refine (zd d.session d.sum A4 c4' d.sz w3 (SliceR.of_own ho4) H.out.pat.ok.fit).mono ?_
 rintro e w4 ⟨rfl,hg5⟩
 refine ⟨_,rfl,fun _=>hg5,?_⟩
 simp only [Act.put,pB,pC,pD]
 refine zS ?_
 refine ord_p ?_
 refine zF ?_
 have hgd:=((Keep.refl NoB w2).drew.grow hg4).grow hg5
 replace H:=LH (H.out.grow hgd)
 replace HK:=LH (HK.out.grow hgd)
 replace HZ:=LH (Grow.heap hgd HZ.out)
 replace HS:=LH (HS.out.grow hgd)
 clear hg4 hg5 ho4 hgd c0 c1 c2 c3 c4 c5 c6 c7 c8 c9 c10 c11 c12 c13 c14 c15 c16 c17 c18 c19 c20 cf z0 z1 z2 z3 z4 z5 z6 zf
 obtain ⟨c0,c1,c2,c3,c4,c5,c6,c7,c8,c9,c10,c11,c12,c13,c14,c15,c16,c17,c18,c19,c20,cf⟩:=zH H.out.cell
 go_wp2
 have h2:=H.out.put (rc':={ rc with closed:=false,resumed:=false }) 19 (.bool false) rfl rfl rfl
 replace HZ:=LH ((h2.2.block _ (gE HZ.out).1 HGN.out).trans HZ.out)
 replace HK:=LH (HK.out.trans h2.2 (fun _ h=>.inl h))
 replace HS:=LH (HS.out.keep h2.2 (fun j hj=>(HFS.out j hj).1))
 replace H:=LH h2.1
 clear h2 c0 c1 c2 c3 c4 c5 c6 c7 c8 c9 c10 c11 c12 c13 c14 c15 c16 c17 c18 c19 c20 cf
 generalize w4.setCell ⟨g,19,none⟩ (.bool false)=w5 at H HZ HK HS ⊢
 obtain ⟨c0,c1,c2,c3,c4,c5,c6,c7,c8,c9,c10,c11,c12,c13,c14,c15,c16,c17,c18,c19,c20,cf⟩:=zH H.out.cell
 obtain ⟨z0,z1,z2,z3,z4,z5,z6,zf⟩:=zC HZ.out
 rw [show ({ rc with closed:=false,resumed:=false }:RC).part=some ⟨b,0,none⟩ from H.out.part] at c0
 refine zD [0,1,2,3,5,6,4,7,8] [4,7,8] [3,6] [] rfl (by kernel_rfl) ?_
 iterate 3
  refine ord_p ?_
 refine ord_r (y:=by intro w' hg;have q:=hg.cell c0 (fun h=>h);go_simp;with_reducible rfl) (z:=?_)
 refine ord_p ?_
 refine ord_r (y:=by intro w' hg;have q:=hg.cell z2 (fun h=>h);go_simp;with_reducible rfl) (z:=?_)
 refine zG rfl rfl rfl rfl rfl Tryz.func117 rfl rfl [.pointer (some ⟨b,0,none⟩)] rfl ?_
 refine (zpA (H.out.pat.grow (Keep.refl NoB w5).drew)).mono ?_
 rintro e w6 ⟨A6,c6',rfl,hg6,ho6⟩
 refine ⟨_,rfl,fun _=>hg6,?_⟩
 simp only [Act.put,pB,pC,pD]
 refine zG rfl rfl rfl rfl rfl Tryz.func82 rfl rfl [.slice A6 d.known.length c6',.int .i64 i] rfl ?_
 refine (zvA A6 c6' d.known H.out.pat.ok.known i (by have:=H.out.pat.ok.few;omega) w6 (SliceR.of_own ho6)).mono ?_
 rintro e w7 ⟨rfl,rfl⟩
 refine ⟨_,rfl,fun _=>Keep.refl _ _,?_⟩
 simp only [Act.put,pB,pC,pD]
 rw [HGB.out]
 refine ord_s ?_
 refine zF ?_
 have hgd:=(Keep.refl NoB w5).drew.grow hg6
 replace H:=LH (H.out.grow hgd)
 replace HK:=LH (HK.out.grow hgd)
 replace HZ:=LH (Grow.heap hgd HZ.out)
 replace HS:=LH (HS.out.grow hgd)
 clear hg6 ho6 hgd c0 c1 c2 c3 c4 c5 c6 c7 c8 c9 c10 c11 c12 c13 c14 c15 c16 c17 c18 c19 c20 cf z0 z1 z2 z3 z4 z5 z6 zf
 obtain ⟨c0,c1,c2,c3,c4,c5,c6,c7,c8,c9,c10,c11,c12,c13,c14,c15,c16,c17,c18,c19,c20,cf⟩:=zH H.out.cell
 obtain ⟨z0,z1,z2,z3,z4,z5,z6,zf⟩:=zC HZ.out
 rw [show ({ rc with closed:=false,resumed:=false }:RC).part=some ⟨b,0,none⟩ from H.out.part] at c0
 go_wp2
 refine zD [0,1,2,3,4,5,6,7,8,9] [8] [3,5,7] [8] rfl (by kernel_rfl) ?_
 iterate 3
  refine ord_p ?_
 refine ord_r (y:=by intro w' hg;have q:=hg.cell c0 (fun h=>h);go_simp;with_reducible rfl) (z:=?_)
 refine ord_p ?_
 refine ord_r (y:=by intro w' hg;have q:=hg.cell z2 (fun h=>h);go_simp;with_reducible rfl) (z:=?_)
 refine ord_p ?_
 refine ord_r (y:=by intro w' hg;have q:=hg.cell z6 (fun h=>h);go_simp;with_reducible rfl) (z:=?_)
 refine zG rfl rfl rfl rfl rfl Tryz.func106 rfl rfl [.pointer (some ⟨b,0,none⟩),.int .i64 i,.slice A2 bs.length c2'] rfl ?_
 refine (zeD (H.out.pat.grow (Keep.refl NoB w6).drew) i hi HGB.out A2 c2' bs HBB.out.1 HBB.out.2 FS (HS.out.grow (Keep.refl NoB w6).drew) (fun j hj e=>(HFS.out j hj).2 (.inr (.inr (.inl e))))).mono ?_
 rintro e w8 ⟨rfl,p',G',hwb,hP',hk8,hG'⟩
 refine ⟨_,rfl,fun h=>absurd (by simp) h,?_⟩
 simp only [Act.put,pB,pC,pD]
 refine ord_p ?_
 refine zF ?_
 have hHn:=(H.out.grow (Keep.refl NoB w6).drew).morePart (d':=d.more i bs) hwb hP' hk8 hG'
 have HGP:Hid (∀ j,G' j→G j∨w.heap.size≤j):=LH (fun j hj=>(hG' j hj).imp id (fun h=>Nat.le_trans HK.out.size h))
 replace HS:=LH ((HS.out.grow (Keep.refl NoB w6).drew).keep hk8 (fun j hj e=>(HFS.out j hj).2 (.inr (e.imp id .inl))))
 have hzn:=HGN.out
 have HWB:=LH (show w.heap.size≠b∧w.heap.size≠p.wb from HBP.out)
 replace HZ:=LH ((hk8.block w.heap.size (gE (show w6.drew.heap[w.heap.size]? = _ from HZ.out)).1 (fun e=>e.elim HWB.out.1 HWB.out.2)).trans (show w6.drew.heap[w.heap.size]? = _ from HZ.out))
 replace HK:=LH ((HK.out.drew.mono (T:=RF g rc.st b p k) (fun _ h=>.inl h)).trans hk8 (fun j hj=>.inl (.inr (hj.imp id .inl))))
 have HWB2:=LH hwb
 replace H:=LH hHn
 clear hHn hzn hwb hP' hk8 hG' c0 c1 c2 c3 c4 c5 c6 c7 c8 c9 c10 c11 c12 c13 c14 c15 c16 c17 c18 c19 c20 cf z0 z1 z2 z3 z4 z5 z6 zf
 obtain ⟨c0,c1,c2,c3,c4,c5,c6,c7,c8,c9,c10,c11,c12,c13,c14,c15,c16,c17,c18,c19,c20,cf⟩:=zH H.out.cell
 obtain ⟨z0,z1,z2,z3,z4,z5,z6,zf⟩:=zC HZ.out
 go_wp2
 refine zD [0,1,2,3,4,5,6,7,8] [8] [3,5,7] [8] rfl (by kernel_rfl) ?_
 iterate 3
  refine ord_p ?_
 refine ord_r (y:=by intro w' hg;have q:=hg.cell c5 (fun h=>h);go_simp;with_reducible rfl) (z:=?_)
 refine ord_p ?_
 refine ord_r (y:=by intro w' hg;have q:=hg.cell z2 (fun h=>h);go_simp;with_reducible rfl) (z:=?_)
 refine ord_p ?_
 refine ord_r (y:=by intro w' hg;have q:=hg.cell z6 (fun h=>h);go_simp;with_reducible rfl) (z:=?_)
 refine zG rfl rfl rfl rfl rfl Tryz.func182 rfl rfl [.pointer (some ⟨rc.st,0,none⟩),.int .i64 i,.slice A2 bs.length c2'] rfl ?_
 refine (zSC (s:=rc.st) (H.out.kat.grow (Keep.refl NoB w8).drew) hkn hkn2 i (by omega) A2 bs c2' hlen.2 hlen.1 (HS.out.grow (Keep.refl NoB w8).drew).now).mono ?_
 rintro e w9 ⟨rfl,x,A9,c9',hxb,hK9,hk9,hx9,hlo9⟩
 refine ⟨_,rfl,fun h=>absurd (by simp) h,?_⟩
 simp only [Act.put,pB,pC,pD]
 refine zF ?_
 have hdz:w8.drew.heap.size=w8.heap.size:=rfl
 have hHn:=(H.out.grow (Keep.refl NoB w8).drew).moreStore (k':=(k.put i x).step A9 c9') hK9 hk9 (fun j hj=>by
  rcases hj with e | e | e
  ·exact .inl (.inl e)
  ·exact .inl (.inr (.inl e))
  ·exact (hlo9 j e).imp (fun h=>.inr (.inr h)) id) (fun j hj=>hj.imp id (fun e=>by rw [e];exact hx9))
 have HRF:Hid (∀ j,(RF g rc.st b p' ((k.put i x).step A9 c9') j∨G' j∨(Gk j∨j=x.b))→(RF g rc.st b p k j∨G j∨Gk j)∨w.heap.size≤j):=LH (fun j hj=>by
  rcases hj with (e | e | e | e | e | e) | e | e | e
  ·exact .inl (.inl (.inl e))
  ·exact .inl (.inl (.inr (.inl e)))
  ·rw [HWB2.out] at e;exact .inl (.inl (.inr (.inr (.inl e))))
  ·exact .inl (.inl (.inr (.inr (.inr (.inl e)))))
  ·exact .inl (.inl (.inr (.inr (.inr (.inr (.inl e))))))
  ·rcases hlo9 j e with h | h
   ·exact .inl (.inl (.inr (.inr (.inr (.inr (.inr h))))))
   ·exact .inr (by have:=HK.out.size;omega)
  ·exact (HGP.out j e).imp (fun h=>.inr (.inl h)) id
  ·exact .inl (.inr (.inr e))
  ·exact .inr (by have:=HK.out.size;omega))
 replace HK:=LH (HK.out.drew.trans hk9 (fun j hj=>.inl (.inr (.inr (.inr hj)))))
 have HKN:Hid (((k.put i x).step A9 c9').lo.n=k.lo.n+1∧((k.put i x).step A9 c9').n=k.n+1∧((k.put i x).step A9 c9').nt=k.nt):=LH ⟨rfl,rfl,rfl⟩
 obtain ⟨k',hk'⟩:∃ k',(k.put i x).step A9 c9'=k':=⟨_,rfl⟩
 rw [hk'] at hHn HRF HKN
 obtain ⟨Gk',hGk'⟩:∃ Gk':Nat→Prop,(fun j=>Gk j∨j=x.b)=Gk':=⟨_,rfl⟩
 rw [hGk'] at hHn
 rw [show (∀ j,(RF g rc.st b p' k' j∨G' j∨(Gk j∨j=x.b))→(RF g rc.st b p k j∨G j∨Gk j)∨w.heap.size≤j)=(∀ j,(RF g rc.st b p' k' j∨G' j∨Gk' j)→(RF g rc.st b p k j∨G j∨Gk j)∨w.heap.size≤j) from by rw [← hGk']] at HRF
 replace H:=LH hHn
 clear hHn hk' hGk' hxb hK9 hk9 hx9 hlo9 hdz HZ HS c0 c1 c2 c3 c4 c5 c6 c7 c8 c9 c10 c11 c12 c13 c14 c15 c16 c17 c18 c19 c20 cf z0 z1 z2 z3 z4 z5 z6 zf
 go_wp2_with fail
 refine (zkE H.out.cell H.out.part H.out.pat hno).mono ?_
 rintro e w10 ⟨⟨v,rfl⟩,hg9⟩
 replace H:=LH (H.out.grow hg9)
 replace HK:=LH (HK.out.grow hg9)
 clear hg9
 obtain ⟨c0,c1,c2,c3,c4,c5,c6,c7,c8,c9,c10,c11,c12,c13,c14,c15,c16,c17,c18,c19,c20,cf⟩:=zH H.out.cell
 rw [show ({ rc with closed:=false,resumed:=false }:RC).phase=1 from hph] at c6
 go_wp2
 go_ret
 exact ⟨rfl,p',G',k',Gk',H.out,HK.out,HWB2.out,HKN.out.1,HKN.out.2.1,HKN.out.2.2,HRF.out⟩
theorem zXK {g b:Nat} {rc:RC} {p:PP} {d:Par} {G:Nat→Prop} {k:KS} {Gk:Nat→Prop} {w:World} (h:RcvAt g rc b p d G k Gk w) (hph:rc.phase=1) (hkn:k.lo.n≤4096) (hkn2:k.n≤4096) (i:Nat) (hi:i<chunksN d.sz) (hgb:getB d.known i=false) (session:Int) (sum:Nat) (bs:List Int) (hb:OkB bs) (hl:(bs.length:Int)=sizeN d.sz i) (hall:chunksN d.sz≤popB (setB d.known i)) (he:∀ rc:RC,rc.ended (d.more i bs)={ rc with phase:=2 }) (A2:Option Addr) (c2':Nat) (FS:Nat→Prop) (hS:Foot (SliceR 1 (.slice A2 bs.length c2') bs.length (u8s bs)) w FS) (hFS:∀ j,FS j→¬ RF g rc.st b p k j) :
    Calls Tryz.prog 110 #[.pointer (some ⟨g,0,none⟩),.agg #[.int .i64 2,.int .u64 session,.int .i64 i,.int .i64 (chunksN d.sz:Nat),.int .u32 (sum:Nat),.slice none 0 0,.slice A2 bs.length c2']] w fun e w'=>e=.returned (.slice none 0 0)∧∃ p' G' k' Gk',RcvAt g { rc with closed:=false,resumed:=false,phase:=2 } b p' (d.more i bs) G' k' Gk' w'∧Keep (RF g rc.st b p k) w w'∧p'.wb=p.wb∧k'.lo.n=k.lo.n+1∧k'.n=k.n+1∧k'.nt=k.nt∧∀ j,(RF g rc.st b p' k' j∨G' j∨Gk' j)→(RF g rc.st b p k j∨G j∨Gk j)∨w.heap.size≤j:=by
 have hg0:=(Keep.refl NoB w).alloc (.cells #[.int .i64 2,.int .u64 session,.int .i64 i,.int .i64 (chunksN d.sz:Nat),.int .u32 (sum:Nat),.slice none 0 0,.slice A2 bs.length c2'] 46)
 have HZ:=LH (heap_alloc_new w (.cells #[.int .i64 2,.int .u64 session,.int .i64 i,.int .i64 (chunksN d.sz:Nat),.int .u32 (sum:Nat),.slice none 0 0,.slice A2 bs.length c2'] 46))
 have HLT:Hid (g<w.heap.size):=LH h.cell.lt
 have H:=LH (h.grow hg0)
 have HG:=LH hg0
 have HGB:=LH hgb
 have HBB:=LH (And.intro hb hl)
 have HS:=LH (hS.grow hg0)
 have HFS:Hid (∀ j,FS j→¬ j=g∧¬ RF g rc.st b p k j):=LH (fun j hj=>⟨fun e=>hFS j hj (.inl e),hFS j hj⟩)
 have hfew:=h.pat.ok.few
 have hlen:0<bs.length∧bs.length≤64:=by
  have h1:=zN h.pat.ok.fit
  have h2:0≤d.sz.sum:=zeA h1.2.2.1
  unfold chunksN at hi
  unfold sizeN at hl
  omega
 have HBP:Hid (w.heap.size≠b∧w.heap.size≠p.wb):=LH (by have:=h.pat.lt;omega)
 clear hgb hb hl hS hFS
 have HE:=LH he
 clear he
 clear h hg0
 go_enter Tryz.func110,Tryz.ntmps110
 obtain ⟨c0,c1,c2,c3,c4,c5,c6,c7,c8,c9,c10,c11,c12,c13,c14,c15,c16,c17,c18,c19,c20,cf⟩:=zH H.out.cell
 go_wp2
 have h2:=H.out.put (rc':={ rc with closed:=false }) 20 (.bool false) rfl rfl rfl
 have HGN:Hid (¬ w.heap.size=g):=LH (fun e=>by have:=HLT.out;omega)
 replace HZ:=LH ((h2.2.block _ (gE HZ.out).1 HGN.out).trans HZ.out)
 have HK:=LH ((HG.out.mono (T:=fun k=>k=g) (fun _ h=>h.elim)).trans h2.2 (fun _ h=>.inl h))
 replace HS:=LH (HS.out.keep h2.2 (fun j hj=>(HFS.out j hj).1))
 replace H:=LH h2.1
 clear h2 HG c0 c1 c2 c3 c4 c5 c6 c7 c8 c9 c10 c11 c12 c13 c14 c15 c16 c17 c18 c19 c20 cf
 generalize (w.alloc (.cells #[.int .i64 2,.int .u64 session,.int .i64 i,.int .i64 (chunksN d.sz:Nat),.int .u32 (sum:Nat),.slice none 0 0,.slice A2 bs.length c2'] 46)).setCell ⟨g,20,none⟩ (.bool false)=w2 at H HZ HK HS ⊢
 obtain ⟨c0,c1,c2,c3,c4,c5,c6,c7,c8,c9,c10,c11,c12,c13,c14,c15,c16,c17,c18,c19,c20,cf⟩:=zH H.out.cell
 rw [show ({ rc with closed:=false }:RC).part=some ⟨b,0,none⟩ from H.out.part] at c0
 rw [show ({ rc with closed:=false }:RC).phase=1 from hph] at c6
 obtain ⟨z0,z1,z2,z3,z4,z5,z6,zf⟩:=zC HZ.out
 go_wp2
 refine zD [0,1,2,3,4,5,6,7,8,9,10,11,12,13,14,15,16,17,18,19,20,21,22] [19,20] [3,9,14,18] [] rfl (by kernel_rfl) ?_
 iterate 3
  refine ord_p ?_
 refine ord_r (y:=by intro w' hg;have q:=hg.cell c6 (fun h=>h);go_simp;with_reducible rfl) (z:=?_)
 iterate 2
  refine ord_p ?_
 iterate 3
  refine zS ?_
 refine zY (y:=by intro w' hg;have q:=hg.cell c0 (fun h=>h);go_simp;with_reducible rfl) (z:=?_)
 refine zS ?_
 iterate 2
  refine ord_p ?_
 refine zS ?_
 refine zY (y:=by intro w' hg;have q:=hg.cell z3 (fun h=>h);go_simp;with_reducible rfl) (z:=?_)
 iterate 3
  refine zS ?_
 refine zY (y:=by intro w' hg;have q:=hg.cell c0 (fun h=>h);go_simp;with_reducible rfl) (z:=?_)
 refine zAA rfl rfl rfl rfl rfl Tryz.func118 rfl rfl [.pointer (some ⟨b,0,none⟩)] rfl ?_
 refine (zkA (H.out.pat.grow (Keep.refl NoB w2).drew)).mono ?_
 rintro e w3 ⟨A4,c4',rfl,hg4,ho4⟩
 refine ⟨_,rfl,fun _=>hg4,?_⟩
 simp only [Act.put,pB,pC,pD]
 refine zAA rfl rfl rfl rfl rfl Tryz.func64 rfl rfl [.agg #[.int .u64 d.session,.slice A4 d.sz.length c4',.int .u32 (d.sum:Nat)]] rfl ?_
 refine (zd d.session d.sum A4 c4' d.sz w3 (SliceR.of_own ho4) H.out.pat.ok.fit).mono ?_
 rintro e w4 ⟨rfl,hg5⟩
 refine ⟨_,rfl,fun _=>hg5,?_⟩
 simp only [Act.put,pB,pC,pD]
 refine zS ?_
 refine ord_p ?_
 refine zF ?_
 have hgd:=((Keep.refl NoB w2).drew.grow hg4).grow hg5
 replace H:=LH (H.out.grow hgd)
 replace HK:=LH (HK.out.grow hgd)
 replace HZ:=LH (Grow.heap hgd HZ.out)
 replace HS:=LH (HS.out.grow hgd)
 clear hg4 hg5 ho4 hgd c0 c1 c2 c3 c4 c5 c6 c7 c8 c9 c10 c11 c12 c13 c14 c15 c16 c17 c18 c19 c20 cf z0 z1 z2 z3 z4 z5 z6 zf
 obtain ⟨c0,c1,c2,c3,c4,c5,c6,c7,c8,c9,c10,c11,c12,c13,c14,c15,c16,c17,c18,c19,c20,cf⟩:=zH H.out.cell
 go_wp2
 have h2:=H.out.put (rc':={ rc with closed:=false,resumed:=false }) 19 (.bool false) rfl rfl rfl
 replace HZ:=LH ((h2.2.block _ (gE HZ.out).1 HGN.out).trans HZ.out)
 replace HK:=LH (HK.out.trans h2.2 (fun _ h=>.inl h))
 replace HS:=LH (HS.out.keep h2.2 (fun j hj=>(HFS.out j hj).1))
 replace H:=LH h2.1
 clear h2 c0 c1 c2 c3 c4 c5 c6 c7 c8 c9 c10 c11 c12 c13 c14 c15 c16 c17 c18 c19 c20 cf
 generalize w4.setCell ⟨g,19,none⟩ (.bool false)=w5 at H HZ HK HS ⊢
 obtain ⟨c0,c1,c2,c3,c4,c5,c6,c7,c8,c9,c10,c11,c12,c13,c14,c15,c16,c17,c18,c19,c20,cf⟩:=zH H.out.cell
 obtain ⟨z0,z1,z2,z3,z4,z5,z6,zf⟩:=zC HZ.out
 rw [show ({ rc with closed:=false,resumed:=false }:RC).part=some ⟨b,0,none⟩ from H.out.part] at c0
 refine zD [0,1,2,3,5,6,4,7,8] [4,7,8] [3,6] [] rfl (by kernel_rfl) ?_
 iterate 3
  refine ord_p ?_
 refine ord_r (y:=by intro w' hg;have q:=hg.cell c0 (fun h=>h);go_simp;with_reducible rfl) (z:=?_)
 refine ord_p ?_
 refine ord_r (y:=by intro w' hg;have q:=hg.cell z2 (fun h=>h);go_simp;with_reducible rfl) (z:=?_)
 refine zG rfl rfl rfl rfl rfl Tryz.func117 rfl rfl [.pointer (some ⟨b,0,none⟩)] rfl ?_
 refine (zpA (H.out.pat.grow (Keep.refl NoB w5).drew)).mono ?_
 rintro e w6 ⟨A6,c6',rfl,hg6,ho6⟩
 refine ⟨_,rfl,fun _=>hg6,?_⟩
 simp only [Act.put,pB,pC,pD]
 refine zG rfl rfl rfl rfl rfl Tryz.func82 rfl rfl [.slice A6 d.known.length c6',.int .i64 i] rfl ?_
 refine (zvA A6 c6' d.known H.out.pat.ok.known i (by have:=H.out.pat.ok.few;omega) w6 (SliceR.of_own ho6)).mono ?_
 rintro e w7 ⟨rfl,rfl⟩
 refine ⟨_,rfl,fun _=>Keep.refl _ _,?_⟩
 simp only [Act.put,pB,pC,pD]
 rw [HGB.out]
 refine ord_s ?_
 refine zF ?_
 have hgd:=(Keep.refl NoB w5).drew.grow hg6
 replace H:=LH (H.out.grow hgd)
 replace HK:=LH (HK.out.grow hgd)
 replace HZ:=LH (Grow.heap hgd HZ.out)
 replace HS:=LH (HS.out.grow hgd)
 clear hg6 ho6 hgd c0 c1 c2 c3 c4 c5 c6 c7 c8 c9 c10 c11 c12 c13 c14 c15 c16 c17 c18 c19 c20 cf z0 z1 z2 z3 z4 z5 z6 zf
 obtain ⟨c0,c1,c2,c3,c4,c5,c6,c7,c8,c9,c10,c11,c12,c13,c14,c15,c16,c17,c18,c19,c20,cf⟩:=zH H.out.cell
 obtain ⟨z0,z1,z2,z3,z4,z5,z6,zf⟩:=zC HZ.out
 rw [show ({ rc with closed:=false,resumed:=false }:RC).part=some ⟨b,0,none⟩ from H.out.part] at c0
 go_wp2
 refine zD [0,1,2,3,4,5,6,7,8,9] [8] [3,5,7] [8] rfl (by kernel_rfl) ?_
 iterate 3
  refine ord_p ?_
 refine ord_r (y:=by intro w' hg;have q:=hg.cell c0 (fun h=>h);go_simp;with_reducible rfl) (z:=?_)
 refine ord_p ?_
 refine ord_r (y:=by intro w' hg;have q:=hg.cell z2 (fun h=>h);go_simp;with_reducible rfl) (z:=?_)
 refine ord_p ?_
 refine ord_r (y:=by intro w' hg;have q:=hg.cell z6 (fun h=>h);go_simp;with_reducible rfl) (z:=?_)
 refine zG rfl rfl rfl rfl rfl Tryz.func106 rfl rfl [.pointer (some ⟨b,0,none⟩),.int .i64 i,.slice A2 bs.length c2'] rfl ?_
 refine (zeD (H.out.pat.grow (Keep.refl NoB w6).drew) i hi HGB.out A2 c2' bs HBB.out.1 HBB.out.2 FS (HS.out.grow (Keep.refl NoB w6).drew) (fun j hj e=>(HFS.out j hj).2 (.inr (.inr (.inl e))))).mono ?_
 rintro e w8 ⟨rfl,p',G',hwb,hP',hk8,hG'⟩
 refine ⟨_,rfl,fun h=>absurd (by simp) h,?_⟩
 simp only [Act.put,pB,pC,pD]
 refine ord_p ?_
 refine zF ?_
 have hHn:=(H.out.grow (Keep.refl NoB w6).drew).morePart (d':=d.more i bs) hwb hP' hk8 hG'
 have HGP:Hid (∀ j,G' j→G j∨w.heap.size≤j):=LH (fun j hj=>(hG' j hj).imp id (fun h=>Nat.le_trans HK.out.size h))
 replace HS:=LH ((HS.out.grow (Keep.refl NoB w6).drew).keep hk8 (fun j hj e=>(HFS.out j hj).2 (.inr (e.imp id .inl))))
 have hzn:=HGN.out
 have HWB:=LH (show w.heap.size≠b∧w.heap.size≠p.wb from HBP.out)
 replace HZ:=LH ((hk8.block w.heap.size (gE (show w6.drew.heap[w.heap.size]? = _ from HZ.out)).1 (fun e=>e.elim HWB.out.1 HWB.out.2)).trans (show w6.drew.heap[w.heap.size]? = _ from HZ.out))
 replace HK:=LH ((HK.out.drew.mono (T:=RF g rc.st b p k) (fun _ h=>.inl h)).trans hk8 (fun j hj=>.inl (.inr (hj.imp id .inl))))
 have HWB2:=LH hwb
 replace H:=LH hHn
 clear hHn hzn hwb hP' hk8 hG' c0 c1 c2 c3 c4 c5 c6 c7 c8 c9 c10 c11 c12 c13 c14 c15 c16 c17 c18 c19 c20 cf z0 z1 z2 z3 z4 z5 z6 zf
 obtain ⟨c0,c1,c2,c3,c4,c5,c6,c7,c8,c9,c10,c11,c12,c13,c14,c15,c16,c17,c18,c19,c20,cf⟩:=zH H.out.cell
 obtain ⟨z0,z1,z2,z3,z4,z5,z6,zf⟩:=zC HZ.out
 go_wp2
 refine zD [0,1,2,3,4,5,6,7,8] [8] [3,5,7] [8] rfl (by kernel_rfl) ?_
 iterate 3
  refine ord_p ?_
 refine ord_r (y:=by intro w' hg;have q:=hg.cell c5 (fun h=>h);go_simp;with_reducible rfl) (z:=?_)
 refine ord_p ?_
 refine ord_r (y:=by intro w' hg;have q:=hg.cell z2 (fun h=>h);go_simp;with_reducible rfl) (z:=?_)
 refine ord_p ?_
 refine ord_r (y:=by intro w' hg;have q:=hg.cell z6 (fun h=>h);go_simp;with_reducible rfl) (z:=?_)
 refine zG rfl rfl rfl rfl rfl Tryz.func182 rfl rfl [.pointer (some ⟨rc.st,0,none⟩),.int .i64 i,.slice A2 bs.length c2'] rfl ?_
 refine (zSC (s:=rc.st) (H.out.kat.grow (Keep.refl NoB w8).drew) hkn hkn2 i (by omega) A2 bs c2' hlen.2 hlen.1 (HS.out.grow (Keep.refl NoB w8).drew).now).mono ?_
 rintro e w9 ⟨rfl,x,A9,c9',hxb,hK9,hk9,hx9,hlo9⟩
 refine ⟨_,rfl,fun h=>absurd (by simp) h,?_⟩
 simp only [Act.put,pB,pC,pD]
 refine zF ?_
 have hdz:w8.drew.heap.size=w8.heap.size:=rfl
 have hHn:=(H.out.grow (Keep.refl NoB w8).drew).moreStore (k':=(k.put i x).step A9 c9') hK9 hk9 (fun j hj=>by
  rcases hj with e | e | e
  ·exact .inl (.inl e)
  ·exact .inl (.inr (.inl e))
  ·exact (hlo9 j e).imp (fun h=>.inr (.inr h)) id) (fun j hj=>hj.imp id (fun e=>by rw [e];exact hx9))
 have HRF:Hid (∀ j,(RF g rc.st b p' ((k.put i x).step A9 c9') j∨G' j∨(Gk j∨j=x.b))→(RF g rc.st b p k j∨G j∨Gk j)∨w.heap.size≤j):=LH (fun j hj=>by
  rcases hj with (e | e | e | e | e | e) | e | e | e
  ·exact .inl (.inl (.inl e))
  ·exact .inl (.inl (.inr (.inl e)))
  ·rw [HWB2.out] at e;exact .inl (.inl (.inr (.inr (.inl e))))
  ·exact .inl (.inl (.inr (.inr (.inr (.inl e)))))
  ·exact .inl (.inl (.inr (.inr (.inr (.inr (.inl e))))))
  ·rcases hlo9 j e with h | h
   ·exact .inl (.inl (.inr (.inr (.inr (.inr (.inr h))))))
   ·exact .inr (by have:=HK.out.size;omega)
  ·exact (HGP.out j e).imp (fun h=>.inr (.inl h)) id
  ·exact .inl (.inr (.inr e))
  ·exact .inr (by have:=HK.out.size;omega))
 replace HK:=LH (HK.out.drew.trans hk9 (fun j hj=>.inl (.inr (.inr (.inr hj)))))
 have HKN:Hid (((k.put i x).step A9 c9').lo.n=k.lo.n+1∧((k.put i x).step A9 c9').n=k.n+1∧((k.put i x).step A9 c9').nt=k.nt):=LH ⟨rfl,rfl,rfl⟩
 obtain ⟨k',hk'⟩:∃ k',(k.put i x).step A9 c9'=k':=⟨_,rfl⟩
 rw [hk'] at hHn HRF HKN
 obtain ⟨Gk',hGk'⟩:∃ Gk':Nat→Prop,(fun j=>Gk j∨j=x.b)=Gk':=⟨_,rfl⟩
 rw [hGk'] at hHn
 rw [show (∀ j,(RF g rc.st b p' k' j∨G' j∨(Gk j∨j=x.b))→(RF g rc.st b p k j∨G j∨Gk j)∨w.heap.size≤j)=(∀ j,(RF g rc.st b p' k' j∨G' j∨Gk' j)→(RF g rc.st b p k j∨G j∨Gk j)∨w.heap.size≤j) from by rw [← hGk']] at HRF
 replace H:=LH hHn
 clear hHn hk' hGk' hxb hK9 hk9 hx9 hlo9 hdz HZ HS c0 c1 c2 c3 c4 c5 c6 c7 c8 c9 c10 c11 c12 c13 c14 c15 c16 c17 c18 c19 c20 cf z0 z1 z2 z3 z4 z5 z6 zf
 go_wp2_with fail
 refine (zzD H.out.cell H.out.part H.out.pat hall).mono ?_
 rintro e w10 ⟨⟨v,rfl⟩,hR,hkg⟩
 rw [HE.out] at hR
 replace HK:=LH (HK.out.trans hkg (fun j hj=>.inl (.inl hj)))
 replace H:=LH (show RcvAt g { rc with closed:=false,resumed:=false,phase:=2 } b p' (d.more i bs) G' k' Gk' w10 from ⟨hR,H.out.part,H.out.pat.keep hkg (fun e=>H.out.gb.1 e.symm) (fun e=>H.out.gb.2.1 e.symm) (fun j hj e=>H.out.gb.2.2.1 (by rw [← e];exact hj)),H.out.kat.keep hkg (fun j hj e=>H.out.gb.2.2.2.1 (by rw [← e];exact hj)) (fun j hj e=>H.out.gb.2.2.2.2 (by rw [← e];exact hj)),H.out.gb,H.out.kf,H.out.kg⟩)
 clear hR hkg
 obtain ⟨c0,c1,c2,c3,c4,c5,c6,c7,c8,c9,c10,c11,c12,c13,c14,c15,c16,c17,c18,c19,c20,cf⟩:=zH H.out.cell
 go_wp2
 go_ret
 exact ⟨rfl,p',G',k',Gk',H.out,HK.out,HWB2.out,HKN.out.1,HKN.out.2.1,HKN.out.2.2,HRF.out⟩
theorem zIJ {g b:Nat} {rc:RC} {p:PP} {d:Par} {G:Nat→Prop} {k:KS} {Gk:Nat→Prop} {w:World} (h:RcvAt g rc b p d G k Gk w) (hph:rc.phase=1) (hkn:k.lo.n≤4096) (hkn2:k.n≤4096) (i:Nat) (hi:i<chunksN d.sz) (hgb:getB d.known i=false) (session:Int) (sum:Nat) (bs:List Int) (hb:OkB bs) (hl:(bs.length:Int)=sizeN d.sz i) (hall:chunksN d.sz≤popB (setB d.known i)) (E:Nat) (hE:E≤100) (he:∀ rc:RC,rc.ended (d.more i bs)=rc.fail E) (A2:Option Addr) (c2':Nat) (FS:Nat→Prop) (hS:Foot (SliceR 1 (.slice A2 bs.length c2') bs.length (u8s bs)) w FS) (hFS:∀ j,FS j→¬ RF g rc.st b p k j) :
    Calls Tryz.prog 110 #[.pointer (some ⟨g,0,none⟩),.agg #[.int .i64 2,.int .u64 session,.int .i64 i,.int .i64 (chunksN d.sz:Nat),.int .u32 (sum:Nat),.slice none 0 0,.slice A2 bs.length c2']] w fun e w'=>∃ bb,e=.returned (.slice (some ⟨bb,0,none⟩) 1 1)∧OneG w' bb 5 rc.session E 0 rc.sum∧w.heap.size≤bb∧∃ rc':RC,RCell g (rc'.fail E) w'∧rc'.st=rc.st∧Keep (RF g rc.st b p k) w w':=by
 have hg0:=(Keep.refl NoB w).alloc (.cells #[.int .i64 2,.int .u64 session,.int .i64 i,.int .i64 (chunksN d.sz:Nat),.int .u32 (sum:Nat),.slice none 0 0,.slice A2 bs.length c2'] 46)
 have HZ:=LH (heap_alloc_new w (.cells #[.int .i64 2,.int .u64 session,.int .i64 i,.int .i64 (chunksN d.sz:Nat),.int .u32 (sum:Nat),.slice none 0 0,.slice A2 bs.length c2'] 46))
 have HLT:Hid (g<w.heap.size):=LH h.cell.lt
 have H:=LH (h.grow hg0)
 have HG:=LH hg0
 have HGB:=LH hgb
 have HBB:=LH (And.intro hb hl)
 have HS:=LH (hS.grow hg0)
 have HFS:Hid (∀ j,FS j→¬ j=g∧¬ RF g rc.st b p k j):=LH (fun j hj=>⟨fun e=>hFS j hj (.inl e),hFS j hj⟩)
 have hfew:=h.pat.ok.few
 have hlen:0<bs.length∧bs.length≤64:=by
  have h1:=zN h.pat.ok.fit
  have h2:0≤d.sz.sum:=zeA h1.2.2.1
  unfold chunksN at hi
  unfold sizeN at hl
  omega
 have HBP:Hid (w.heap.size≠b∧w.heap.size≠p.wb):=LH (by have:=h.pat.lt;omega)
 clear hgb hb hl hS hFS
 have HE:=LH he
 clear he
 clear h hg0
 go_enter Tryz.func110,Tryz.ntmps110
 obtain ⟨c0,c1,c2,c3,c4,c5,c6,c7,c8,c9,c10,c11,c12,c13,c14,c15,c16,c17,c18,c19,c20,cf⟩:=zH H.out.cell
 go_wp2
 have h2:=H.out.put (rc':={ rc with closed:=false }) 20 (.bool false) rfl rfl rfl
 have HGN:Hid (¬ w.heap.size=g):=LH (fun e=>by have:=HLT.out;omega)
 replace HZ:=LH ((h2.2.block _ (gE HZ.out).1 HGN.out).trans HZ.out)
 have HK:=LH ((HG.out.mono (T:=fun k=>k=g) (fun _ h=>h.elim)).trans h2.2 (fun _ h=>.inl h))
 replace HS:=LH (HS.out.keep h2.2 (fun j hj=>(HFS.out j hj).1))
 replace H:=LH h2.1
 clear h2 HG c0 c1 c2 c3 c4 c5 c6 c7 c8 c9 c10 c11 c12 c13 c14 c15 c16 c17 c18 c19 c20 cf
 generalize (w.alloc (.cells #[.int .i64 2,.int .u64 session,.int .i64 i,.int .i64 (chunksN d.sz:Nat),.int .u32 (sum:Nat),.slice none 0 0,.slice A2 bs.length c2'] 46)).setCell ⟨g,20,none⟩ (.bool false)=w2 at H HZ HK HS ⊢
 obtain ⟨c0,c1,c2,c3,c4,c5,c6,c7,c8,c9,c10,c11,c12,c13,c14,c15,c16,c17,c18,c19,c20,cf⟩:=zH H.out.cell
 rw [show ({ rc with closed:=false }:RC).part=some ⟨b,0,none⟩ from H.out.part] at c0
 rw [show ({ rc with closed:=false }:RC).phase=1 from hph] at c6
 obtain ⟨z0,z1,z2,z3,z4,z5,z6,zf⟩:=zC HZ.out
 go_wp2
 refine zD [0,1,2,3,4,5,6,7,8,9,10,11,12,13,14,15,16,17,18,19,20,21,22] [19,20] [3,9,14,18] [] rfl (by kernel_rfl) ?_
 iterate 3
  refine ord_p ?_
 refine ord_r (y:=by intro w' hg;have q:=hg.cell c6 (fun h=>h);go_simp;with_reducible rfl) (z:=?_)
 iterate 2
  refine ord_p ?_
 iterate 3
  refine zS ?_
 refine zY (y:=by intro w' hg;have q:=hg.cell c0 (fun h=>h);go_simp;with_reducible rfl) (z:=?_)
 refine zS ?_
 iterate 2
  refine ord_p ?_
 refine zS ?_
 refine zY (y:=by intro w' hg;have q:=hg.cell z3 (fun h=>h);go_simp;with_reducible rfl) (z:=?_)
 iterate 3
  refine zS ?_
 refine zY (y:=by intro w' hg;have q:=hg.cell c0 (fun h=>h);go_simp;with_reducible rfl) (z:=?_)
 refine zAA rfl rfl rfl rfl rfl Tryz.func118 rfl rfl [.pointer (some ⟨b,0,none⟩)] rfl ?_
 refine (zkA (H.out.pat.grow (Keep.refl NoB w2).drew)).mono ?_
 rintro e w3 ⟨A4,c4',rfl,hg4,ho4⟩
 refine ⟨_,rfl,fun _=>hg4,?_⟩
 simp only [Act.put,pB,pC,pD]
 refine zAA rfl rfl rfl rfl rfl Tryz.func64 rfl rfl [.agg #[.int .u64 d.session,.slice A4 d.sz.length c4',.int .u32 (d.sum:Nat)]] rfl ?_
 refine (zd d.session d.sum A4 c4' d.sz w3 (SliceR.of_own ho4) H.out.pat.ok.fit).mono ?_
 rintro e w4 ⟨rfl,hg5⟩
 refine ⟨_,rfl,fun _=>hg5,?_⟩
 simp only [Act.put,pB,pC,pD]
 refine zS ?_
 refine ord_p ?_
 refine zF ?_
 have hgd:=((Keep.refl NoB w2).drew.grow hg4).grow hg5
 replace H:=LH (H.out.grow hgd)
 replace HK:=LH (HK.out.grow hgd)
 replace HZ:=LH (Grow.heap hgd HZ.out)
 replace HS:=LH (HS.out.grow hgd)
 clear hg4 hg5 ho4 hgd c0 c1 c2 c3 c4 c5 c6 c7 c8 c9 c10 c11 c12 c13 c14 c15 c16 c17 c18 c19 c20 cf z0 z1 z2 z3 z4 z5 z6 zf
 obtain ⟨c0,c1,c2,c3,c4,c5,c6,c7,c8,c9,c10,c11,c12,c13,c14,c15,c16,c17,c18,c19,c20,cf⟩:=zH H.out.cell
 go_wp2
 have h2:=H.out.put (rc':={ rc with closed:=false,resumed:=false }) 19 (.bool false) rfl rfl rfl
 replace HZ:=LH ((h2.2.block _ (gE HZ.out).1 HGN.out).trans HZ.out)
 replace HK:=LH (HK.out.trans h2.2 (fun _ h=>.inl h))
 replace HS:=LH (HS.out.keep h2.2 (fun j hj=>(HFS.out j hj).1))
 replace H:=LH h2.1
 clear h2 c0 c1 c2 c3 c4 c5 c6 c7 c8 c9 c10 c11 c12 c13 c14 c15 c16 c17 c18 c19 c20 cf
 generalize w4.setCell ⟨g,19,none⟩ (.bool false)=w5 at H HZ HK HS ⊢
 obtain ⟨c0,c1,c2,c3,c4,c5,c6,c7,c8,c9,c10,c11,c12,c13,c14,c15,c16,c17,c18,c19,c20,cf⟩:=zH H.out.cell
 obtain ⟨z0,z1,z2,z3,z4,z5,z6,zf⟩:=zC HZ.out
 rw [show ({ rc with closed:=false,resumed:=false }:RC).part=some ⟨b,0,none⟩ from H.out.part] at c0
 refine zD [0,1,2,3,5,6,4,7,8] [4,7,8] [3,6] [] rfl (by kernel_rfl) ?_
 iterate 3
  refine ord_p ?_
 refine ord_r (y:=by intro w' hg;have q:=hg.cell c0 (fun h=>h);go_simp;with_reducible rfl) (z:=?_)
 refine ord_p ?_
 refine ord_r (y:=by intro w' hg;have q:=hg.cell z2 (fun h=>h);go_simp;with_reducible rfl) (z:=?_)
 refine zG rfl rfl rfl rfl rfl Tryz.func117 rfl rfl [.pointer (some ⟨b,0,none⟩)] rfl ?_
 refine (zpA (H.out.pat.grow (Keep.refl NoB w5).drew)).mono ?_
 rintro e w6 ⟨A6,c6',rfl,hg6,ho6⟩
 refine ⟨_,rfl,fun _=>hg6,?_⟩
 simp only [Act.put,pB,pC,pD]
 refine zG rfl rfl rfl rfl rfl Tryz.func82 rfl rfl [.slice A6 d.known.length c6',.int .i64 i] rfl ?_
 refine (zvA A6 c6' d.known H.out.pat.ok.known i (by have:=H.out.pat.ok.few;omega) w6 (SliceR.of_own ho6)).mono ?_
 rintro e w7 ⟨rfl,rfl⟩
 refine ⟨_,rfl,fun _=>Keep.refl _ _,?_⟩
 simp only [Act.put,pB,pC,pD]
 rw [HGB.out]
 refine ord_s ?_
 refine zF ?_
 have hgd:=(Keep.refl NoB w5).drew.grow hg6
 replace H:=LH (H.out.grow hgd)
 replace HK:=LH (HK.out.grow hgd)
 replace HZ:=LH (Grow.heap hgd HZ.out)
 replace HS:=LH (HS.out.grow hgd)
 clear hg6 ho6 hgd c0 c1 c2 c3 c4 c5 c6 c7 c8 c9 c10 c11 c12 c13 c14 c15 c16 c17 c18 c19 c20 cf z0 z1 z2 z3 z4 z5 z6 zf
 obtain ⟨c0,c1,c2,c3,c4,c5,c6,c7,c8,c9,c10,c11,c12,c13,c14,c15,c16,c17,c18,c19,c20,cf⟩:=zH H.out.cell
 obtain ⟨z0,z1,z2,z3,z4,z5,z6,zf⟩:=zC HZ.out
 rw [show ({ rc with closed:=false,resumed:=false }:RC).part=some ⟨b,0,none⟩ from H.out.part] at c0
 go_wp2
 refine zD [0,1,2,3,4,5,6,7,8,9] [8] [3,5,7] [8] rfl (by kernel_rfl) ?_
 iterate 3
  refine ord_p ?_
 refine ord_r (y:=by intro w' hg;have q:=hg.cell c0 (fun h=>h);go_simp;with_reducible rfl) (z:=?_)
 refine ord_p ?_
 refine ord_r (y:=by intro w' hg;have q:=hg.cell z2 (fun h=>h);go_simp;with_reducible rfl) (z:=?_)
 refine ord_p ?_
 refine ord_r (y:=by intro w' hg;have q:=hg.cell z6 (fun h=>h);go_simp;with_reducible rfl) (z:=?_)
 refine zG rfl rfl rfl rfl rfl Tryz.func106 rfl rfl [.pointer (some ⟨b,0,none⟩),.int .i64 i,.slice A2 bs.length c2'] rfl ?_
 refine (zeD (H.out.pat.grow (Keep.refl NoB w6).drew) i hi HGB.out A2 c2' bs HBB.out.1 HBB.out.2 FS (HS.out.grow (Keep.refl NoB w6).drew) (fun j hj e=>(HFS.out j hj).2 (.inr (.inr (.inl e))))).mono ?_
 rintro e w8 ⟨rfl,p',G',hwb,hP',hk8,hG'⟩
 refine ⟨_,rfl,fun h=>absurd (by simp) h,?_⟩
 simp only [Act.put,pB,pC,pD]
 refine ord_p ?_
 refine zF ?_
 have hHn:=(H.out.grow (Keep.refl NoB w6).drew).morePart (d':=d.more i bs) hwb hP' hk8 hG'
 have HGP:Hid (∀ j,G' j→G j∨w.heap.size≤j):=LH (fun j hj=>(hG' j hj).imp id (fun h=>Nat.le_trans HK.out.size h))
 replace HS:=LH ((HS.out.grow (Keep.refl NoB w6).drew).keep hk8 (fun j hj e=>(HFS.out j hj).2 (.inr (e.imp id .inl))))
 have hzn:=HGN.out
 have HWB:=LH (show w.heap.size≠b∧w.heap.size≠p.wb from HBP.out)
 replace HZ:=LH ((hk8.block w.heap.size (gE (show w6.drew.heap[w.heap.size]? = _ from HZ.out)).1 (fun e=>e.elim HWB.out.1 HWB.out.2)).trans (show w6.drew.heap[w.heap.size]? = _ from HZ.out))
 replace HK:=LH ((HK.out.drew.mono (T:=RF g rc.st b p k) (fun _ h=>.inl h)).trans hk8 (fun j hj=>.inl (.inr (hj.imp id .inl))))
 have HWB2:=LH hwb
 replace H:=LH hHn
 clear hHn hzn hwb hP' hk8 hG' c0 c1 c2 c3 c4 c5 c6 c7 c8 c9 c10 c11 c12 c13 c14 c15 c16 c17 c18 c19 c20 cf z0 z1 z2 z3 z4 z5 z6 zf
 obtain ⟨c0,c1,c2,c3,c4,c5,c6,c7,c8,c9,c10,c11,c12,c13,c14,c15,c16,c17,c18,c19,c20,cf⟩:=zH H.out.cell
 obtain ⟨z0,z1,z2,z3,z4,z5,z6,zf⟩:=zC HZ.out
 go_wp2
 refine zD [0,1,2,3,4,5,6,7,8] [8] [3,5,7] [8] rfl (by kernel_rfl) ?_
 iterate 3
  refine ord_p ?_
 refine ord_r (y:=by intro w' hg;have q:=hg.cell c5 (fun h=>h);go_simp;with_reducible rfl) (z:=?_)
 refine ord_p ?_
 refine ord_r (y:=by intro w' hg;have q:=hg.cell z2 (fun h=>h);go_simp;with_reducible rfl) (z:=?_)
 refine ord_p ?_
 refine ord_r (y:=by intro w' hg;have q:=hg.cell z6 (fun h=>h);go_simp;with_reducible rfl) (z:=?_)
 refine zG rfl rfl rfl rfl rfl Tryz.func182 rfl rfl [.pointer (some ⟨rc.st,0,none⟩),.int .i64 i,.slice A2 bs.length c2'] rfl ?_
 refine (zSC (s:=rc.st) (H.out.kat.grow (Keep.refl NoB w8).drew) hkn hkn2 i (by omega) A2 bs c2' hlen.2 hlen.1 (HS.out.grow (Keep.refl NoB w8).drew).now).mono ?_
 rintro e w9 ⟨rfl,x,A9,c9',hxb,hK9,hk9,hx9,hlo9⟩
 refine ⟨_,rfl,fun h=>absurd (by simp) h,?_⟩
 simp only [Act.put,pB,pC,pD]
 refine zF ?_
 have hdz:w8.drew.heap.size=w8.heap.size:=rfl
 have hHn:=(H.out.grow (Keep.refl NoB w8).drew).moreStore (k':=(k.put i x).step A9 c9') hK9 hk9 (fun j hj=>by
  rcases hj with e | e | e
  ·exact .inl (.inl e)
  ·exact .inl (.inr (.inl e))
  ·exact (hlo9 j e).imp (fun h=>.inr (.inr h)) id) (fun j hj=>hj.imp id (fun e=>by rw [e];exact hx9))
 have HRF:Hid (∀ j,(RF g rc.st b p' ((k.put i x).step A9 c9') j∨G' j∨(Gk j∨j=x.b))→(RF g rc.st b p k j∨G j∨Gk j)∨w.heap.size≤j):=LH (fun j hj=>by
  rcases hj with (e | e | e | e | e | e) | e | e | e
  ·exact .inl (.inl (.inl e))
  ·exact .inl (.inl (.inr (.inl e)))
  ·rw [HWB2.out] at e;exact .inl (.inl (.inr (.inr (.inl e))))
  ·exact .inl (.inl (.inr (.inr (.inr (.inl e)))))
  ·exact .inl (.inl (.inr (.inr (.inr (.inr (.inl e))))))
  ·rcases hlo9 j e with h | h
   ·exact .inl (.inl (.inr (.inr (.inr (.inr (.inr h))))))
   ·exact .inr (by have:=HK.out.size;omega)
  ·exact (HGP.out j e).imp (fun h=>.inr (.inl h)) id
  ·exact .inl (.inr (.inr e))
  ·exact .inr (by have:=HK.out.size;omega))
 replace HK:=LH (HK.out.drew.trans hk9 (fun j hj=>.inl (.inr (.inr (.inr hj)))))
 have HKN:Hid (((k.put i x).step A9 c9').lo.n=k.lo.n+1∧((k.put i x).step A9 c9').n=k.n+1∧((k.put i x).step A9 c9').nt=k.nt):=LH ⟨rfl,rfl,rfl⟩
 obtain ⟨k',hk'⟩:∃ k',(k.put i x).step A9 c9'=k':=⟨_,rfl⟩
 rw [hk'] at hHn HRF HKN
 obtain ⟨Gk',hGk'⟩:∃ Gk':Nat→Prop,(fun j=>Gk j∨j=x.b)=Gk':=⟨_,rfl⟩
 rw [hGk'] at hHn
 rw [show (∀ j,(RF g rc.st b p' k' j∨G' j∨(Gk j∨j=x.b))→(RF g rc.st b p k j∨G j∨Gk j)∨w.heap.size≤j)=(∀ j,(RF g rc.st b p' k' j∨G' j∨Gk' j)→(RF g rc.st b p k j∨G j∨Gk j)∨w.heap.size≤j) from by rw [← hGk']] at HRF
 replace H:=LH hHn
 clear hHn hk' hGk' hxb hK9 hk9 hx9 hlo9 hdz HZ HS c0 c1 c2 c3 c4 c5 c6 c7 c8 c9 c10 c11 c12 c13 c14 c15 c16 c17 c18 c19 c20 cf z0 z1 z2 z3 z4 z5 z6 zf
 go_wp2_with fail
 refine (zzD H.out.cell H.out.part H.out.pat hall).mono ?_
 rintro e w10 ⟨⟨v,rfl⟩,hR,hkg⟩
 rw [HE.out] at hR
 replace HK:=LH (HK.out.trans hkg (fun j hj=>.inl (.inl hj)))
 have HR:=LH hR
 clear hR hkg H
 have c6:w10.cell? ⟨g,6,none⟩=some (.int .i64 3):=World.news_of_block HR.out 6 _ rfl
 have c7:w10.cell? ⟨g,7,none⟩=some (.int .u16 (E:Nat)):=World.news_of_block HR.out 7 _ rfl
 have hcv:(E:Int)≤65535:=by omega
 go_wp2_with fail
 refine (zWD HR.out 5 E).mono ?_
 rintro ee w11 ⟨rfl,hg⟩
 replace HK:=LH (HK.out.grow hg)
 replace HR:=LH (HR.out.grow hg)
 clear hg c6 c7
 go_wp2
 go_ret
 have hsz:=HK.out.size
 exact ⟨_,rfl,heap_alloc_new w11 _,hsz,_,HR.out.grow ((Keep.refl NoB w11).alloc _),rfl,HK.out.grow ((Keep.refl NoB w11).alloc _)⟩
end Go.Proofs.YtfkcpaahdlkcdaaGreat

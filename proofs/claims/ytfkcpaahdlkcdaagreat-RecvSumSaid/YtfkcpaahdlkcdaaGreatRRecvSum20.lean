import Derived.Test.YtfkcpaahdlkcdaaGreatRRecvSum01
import Derived.Test.YtfkcpaahdlkcdaaGreatRRecvSum02
import Derived.Test.YtfkcpaahdlkcdaaGreatRRecvSum07
import Derived.Test.YtfkcpaahdlkcdaaGreatRRecvSum14
import Derived.Test.YtfkcpaahdlkcdaaGreatRRecvSum19
set_option linter.unusedSimpArgs false
set_option linter.unusedVariables false
set_option maxRecDepth 100000
set_option maxHeartbeats 16000000
namespace Go.Proofs.YtfkcpaahdlkcdaaGreat
open Go.RowKit
theorem zyH {x:RX} (hx:x.Ok) (i:Nat) (hi:i<x.Q):((chunkP x.a i).length:Int)=sizeN (szs x.a) i:=by
 have hs:=hx.small
 rw [zBE _ hx.a]
 unfold sizeN
 rw [← hs.2.2.2.2.2.1]
 omega
theorem zsB {x:RX} (hx:x.Ok) {kb:List Int} (hk:BitsOk kb x.Q) (i:Nat) (hi:i<x.Q):(parD x kb).more i (chunkP x.a i)=parD x (setB kb i):=by
 unfold parD Par.more
 simp only
 rw [zuH _ hx.a kb i (by rw [hk.len];omega)]
theorem zGD {x:RX} (hx:x.Ok) {kb:List Int} (hk:BitsOk kb x.Q) (hal:x.Q≤popB kb) (rc:RC):rc.ended (parD x kb)=if x.m=sumP x.s x.a then (if checkP x.a=0 then { rc with phase:=2 } else rc.fail (checkP x.a)) else rc.fail 12:=by
 have hw:wordsK x.a.flatten kb=x.a.flatten:=zDE (fun i hi=>hk.full.1 hal i (by rw [hx.small.2.2.2.2.2.2];exact hi))
 unfold RC.ended parD
 simp only
 rw [hw,zYD]
theorem Rv1.again {x:RX} {g st:Nat} {rc rc':RC} {b:Nat} {p:PP} {kb:List Int} {G:Nat→Prop} {k:KS} {Gk F:Nat→Prop} {w w':World} (h1:Rv1 x g st rc b p kb G k Gk F w) (hr:RCell g rc' w') (hk:Keep (fun j=>j=g) w w') (e1:rc'.st=rc.st) (e2:rc'.quota=rc.quota) (e3:rc'.part=rc.part) (e4:rc'.session=rc.session) (e5:rc'.sum=rc.sum) (e6:rc'.err=rc.err):Rv1 x g st rc' b p kb G k Gk F w':=by
 have hgb:=h1.at_.gb
 have hkf:=h1.at_.kf
 refine ⟨⟨hr,e3.trans h1.at_.part,h1.at_.pat.keep hk (fun e=>hgb.1 e.symm) (fun e=>hgb.2.1 e.symm) (fun j hj e=>hgb.2.2.1 (by rw [← e];exact hj)),?_,?_,?_,h1.at_.kg⟩,e1.trans h1.st,e2.trans h1.quota,e4.trans h1.s,e5.trans h1.m,e6.trans h1.err,h1.ok,h1.lo,h1.n,h1.f1,h1.f2,h1.f3⟩
 ·rw [e1];exact h1.at_.kat.keep hk (fun j hj e=>hgb.2.2.2.1 (by rw [← e];exact hj)) (fun j hj e=>hgb.2.2.2.2 (by rw [← e];exact hj))
 ·rw [e1];exact hgb
 ·rw [e1];exact hkf
theorem zFL {x : RX} (hx : x.Ok) {g st : Nat} {F : Nat → Prop} {w : World} (hF : ∀ j, F j → j < w.heap.size) (i : Nat) (hi : i < x.Q) (A2 : Option Addr) (c2 : Nat) {FS : Nat → Prop} (hS : Foot (SliceR 1 (.slice A2 (chunkP x.a i).length c2) (chunkP x.a i).length (u8s (chunkP x.a i))) w FS) (hFS : ∀ j, FS j → ¬ F j) {s : RSt} (h : RvI x g st s F w) :
    Calls Tryz.prog 39 #[.pointer (some ⟨g,0,none⟩),.agg #[.int .i64 2,.int .u64 x.s,.int .i64 i,.int .i64 x.Q,.int .u32 (x.m:Nat),.slice none 0 0,.slice A2 (chunkP x.a i).length c2]] w fun e w'=>∃ v,e=.returned v∧RvStep x g st (datS x s i) (datK x s i) F w v w':=by
 have hI:=h
 cases s with
 | idle =>
  obtain ⟨rc,k,Gk,h0,hp⟩:=h
  refine (zvH h0.cell x.s i x.Q x.m none A2 0 0 (chunkP x.a i).length c2 hp).mono ?_
  rintro e w' ⟨b,rfl,hO,hb,hg⟩
  exact ⟨_,rfl,⟨b,_,_,_,rfl,hO,hb⟩,F,hI.grow hg,hg.mono (fun _ h=>h.elim),fun j hj=>.inl hj,fun j hj=>Nat.lt_of_lt_of_le (hF j hj) hg.size⟩
 | hear hs =>
  obtain ⟨rc,k,Gk,G,h0,hp,hof,hs_,hm_,hH0,hgG,hG0,hh0,hal⟩:=h
  refine zUC h0.cell _ _ _ _ _ _ _ _ _ _ (fun v w'=>RvStep x g st (datS x (.hear hs) i) (datK x (.hear hs) i) F w v w') (by rw [hp];decide) (by rw [hp];decide) hs_.symm hm_.symm (fun w1 hg1=>?_)
  have h1:=h0.keep hg1 (fun _ _ h=>h)
  refine (zsH h1.cell hp h1.part x.s i x.Q x.m A2 (chunkP x.a i).length c2).mono ?_
  rintro e w' ⟨rfl,hr,hk⟩
  have hk2:=(hg1.mono (T:=fun j=>j=g) (fun _ h=>h.elim)).trans hk (fun j e=>.inl e)
  exact ⟨_,rfl,rfl,F,⟨_,k,Gk,G,h0.again hk2 hr rfl rfl rfl rfl (fun j hj=>hj),hp,hof,hs_,hm_,hH0.keep hk2 (fun j hj e=>hgG (by rw [← e];exact hj)),hgG,hG0,hh0,hal⟩,hk2.mono (fun j e=>by rw [e];exact h0.fg),fun j hj=>.inl hj,fun j hj=>Nat.lt_of_lt_of_le (hF j hj) hk2.size⟩
 | ready =>
  obtain ⟨rc,b,p,kb,G,k,Gk,h1,hp,hal⟩:=h
  refine zUC h1.at_.cell _ _ _ _ _ _ _ _ _ _ (fun v w'=>RvStep x g st (datS x .ready i) (datK x .ready i) F w v w') (by rw [hp];decide) (by rw [hp];decide) h1.s.symm h1.m.symm (fun w1 hg1=>?_)
  have h2:=h1.keep hg1 (fun _ _ h=>h)
  refine (ztH h2.at_.cell hp x.s i x.Q x.m A2 (chunkP x.a i).length c2).mono ?_
  rintro e w' ⟨rfl,hr,hk⟩
  have hk2:=(hg1.mono (T:=fun j=>j=g) (fun _ h=>h.elim)).trans hk (fun j e=>.inl e)
  exact ⟨_,rfl,rfl,F,⟨_,b,p,kb,G,k,Gk,h2.again hr hk rfl rfl rfl rfl rfl rfl,hp,hal⟩,hk2.mono (fun j e=>by rw [e];exact h1.f1 g (.inl rfl)),fun j hj=>.inl hj,fun j hj=>Nat.lt_of_lt_of_le (hF j hj) hk2.size⟩
 | fail e =>
  obtain ⟨rc,h0,_⟩:=h
  refine (zDD h0 x.s i x.Q x.m none A2 0 0 (chunkP x.a i).length c2 rfl 2).mono ?_
  rintro e w' ⟨rfl,hg⟩
  exact ⟨_,rfl,RvStep.same hI hF hg⟩
 | part kb =>
  obtain ⟨rc,b,p,G,k,Gk,h1,hp,hno⟩:=h
  refine zUC h1.at_.cell _ _ _ _ _ _ _ _ _ _ (fun v w'=>RvStep x g st (datS x (.part kb) i) (datK x (.part kb) i) F w v w') (by rw [hp];decide) (by rw [hp];decide) h1.s.symm h1.m.symm (fun w1 hg1=>?_)
  have h2:=h1.keep hg1 (fun _ _ h=>h)
  have hF1:∀ j,F j→j<w1.heap.size:=fun j hj=>Nat.lt_of_lt_of_le (hF j hj) hg1.size
  have hS1:=hS.grow hg1
  have hw1:=hg1.size
  have hsz:=zyH hx i hi
  have hokb:=zYI x.a i
  have hfew:=h1.ok.pop_le
  have hQ:=hx.small
  have hbad:∀ (E:Nat),E≤100→E≠0→E≠31→getB kb i=false→x.Q≤popB (setB kb i)→(∀ rc:RC,rc.ended (parD x (setB kb i))=rc.fail E)→datS x (.part kb) i=.fail E →
      Calls Tryz.prog 110 #[.pointer (some ⟨g,0,none⟩),.agg #[.int .i64 2,.int .u64 x.s,.int .i64 i,.int .i64 x.Q,.int .u32 (x.m:Nat),.slice none 0 0,.slice A2 (chunkP x.a i).length c2]] w1 fun e w'=>∃ v,e=.returned v∧RvStep x g st (datS x (.part kb) i) (datK x (.part kb) i) F w v w':=fun E hE hE0 hE31 hgb hal he hd=>by
   refine (zIJ (d:=parD x kb) h2.at_ hp (by rw [h1.lo];omega) (by rw [h1.n];omega) i hi hgb x.s x.m (chunkP x.a i) hokb hsz hal E hE (by rw [zsB hx h1.ok i hi];exact he) A2 c2 FS hS1 (fun j hj e=>hFS j hj (h1.f1 j (by rw [← h1.st];exact e)))).mono ?_
   rintro e w' ⟨bb,rfl,hO,hbb,rc',hr,hst,hk⟩
   have hk2:=(hg1.mono (T:=F) (fun _ h=>h.elim)).trans hk (fun j e=>.inl (h1.f1 j (by rw [← h1.st];exact e)))
   refine ⟨_,rfl,?_,F,?_,hk2,fun j hj=>.inl hj,fun j hj=>Nat.lt_of_lt_of_le (hF j hj) hk2.size⟩
   ·show RvOut (failK (datS x (.part kb) i)) _ _ _
    rw [hd]
    exact ⟨bb,_,_,_,rfl,hO,Nat.le_trans hw1 hbb⟩
   ·rw [hd]
    exact ⟨rc',hr,hst.trans h1.st,h1.f1 g (.inl rfl),hE0,fun e=>absurd e hE31⟩
  cases hgb:getB kb i with
  | true =>
   refine (zBJ (d:=parD x kb) h2.at_ hp i hi hgb hno x.s x.m A2 (chunkP x.a i).length c2 hsz).mono ?_
   rintro e w' ⟨rfl,hr,hk⟩
   have hk2:=(hg1.mono (T:=fun j=>j=g) (fun _ h=>h.elim)).trans hk (fun j e=>.inl e)
   have hd:datS x (.part kb) i=.part kb:=by simp [datS,hgb]
   refine ⟨_,rfl,by show RvOut (failK (datS x (.part kb) i)) _ _ _;rw [hd];rfl,F,by rw [hd];exact ⟨_,b,p,G,k,Gk,h2.again hr.cell hk rfl rfl rfl rfl rfl rfl,hp,hno⟩,hk2.mono (fun j e=>by rw [e];exact h1.f1 g (.inl rfl)),fun j hj=>.inl hj,fun j hj=>Nat.lt_of_lt_of_le (hF j hj) hk2.size⟩
  | false =>
   have hbo:=h1.ok.set hi
   have hpop:=hbo.pop_le
   have hkl : popB (setB kb i) = popB kb + 1 := by
    rw [hbo.pop,h1.ok.pop]
    have hp1 : ∀ n, i < n → n ≤ x.Q → ((List.range n).filter (getB (setB kb i))).length = ((List.range n).filter (getB kb)).length + 1 := by
     intro n
     induction n with
     | zero=>intro h;omega
     | succ n ih =>
      intro hin hnq
      rw [List.range_succ,List.filter_append,List.filter_append,List.length_append,List.length_append]
      by_cases e:i=n
      ·subst e
       have e0:(List.range i).filter (getB (setB kb i))=(List.range i).filter (getB kb):=by
        apply List.filter_congr
        intro j hj
        have hji:=List.mem_range.1 hj
        rw [zUB,decide_eq_false (by omega),Bool.false_or]
       have e1:getB (setB kb i) i=true:=by
        rw [zUB,decide_eq_true ⟨rfl,by rw [h1.ok.len];omega⟩,Bool.true_or]
       rw [e0]
       simp [e1,hgb]
      ·have e2:getB (setB kb i) n=getB kb n:=by
         rw [zUB,decide_eq_false (by omega),Bool.false_or]
       have e3:[n].filter (getB (setB kb i))=[n].filter (getB kb):=by simp [List.filter_cons,e2]
       rw [ih (by omega) (by omega),e3]
       omega
    exact hp1 x.Q hi (Nat.le_refl _)
   by_cases hlt:popB (setB kb i)<x.Q
   ·refine (zWK (d:=parD x kb) h2.at_ hp (by rw [h1.lo];omega) (by rw [h1.n];omega) i hi hgb x.s x.m (chunkP x.a i) hokb hsz hlt A2 c2 FS hS1 (fun j hj e=>hFS j hj (h1.f1 j (by rw [← h1.st];exact e)))).mono ?_
    rintro e w' ⟨rfl,p',G',k',Gk',hr,hk,hwb,hlo,hn,hnt,hff⟩
    have hk2:=(hg1.mono (T:=F) (fun _ h=>h.elim)).trans hk (fun j e=>.inl (h1.f1 j (by rw [← h1.st];exact e)))
    have hd:datS x (.part kb) i=.part (setB kb i):=by simp [datS,hgb,hlt]
    have hsm:=hr.small
    rw [zsB hx h1.ok i hi] at hr
    rw [h1.st] at hff
    refine ⟨_,rfl,by show RvOut (failK (datS x (.part kb) i)) _ _ _;rw [hd];rfl,fun j=>RF g st b p' k' j∨G' j∨Gk' j,by rw [hd];exact ⟨_,b,p',G',k',Gk',⟨hr,h1.st,h1.quota,h1.s,h1.m,h1.err,hbo,by rw [hlo,h1.lo,hkl];omega,by rw [hn,h1.n,hkl],fun j hj=>.inl hj,fun j hj=>.inr (.inl hj),fun j hj=>.inr (.inr hj)⟩,hp,hlt⟩,hk2,fun j hj=>?_,fun j hj=>?_⟩
    ·rcases hff j hj with (e | e | e) | e
     ·exact .inl (h1.f1 j e)
     ·exact .inl (h1.f2 j e)
     ·exact .inl (h1.f3 j e)
     ·exact .inr (Nat.le_trans hw1 e)
    ·rcases hj with e | e | e
     ·exact hsm.1 j (by rw [show ({ rc with closed:=false,resumed:=false }:RC).st=st from h1.st];exact e)
     ·exact hsm.2.1 j e
     ·exact hsm.2.2 j e
   ·have hge:x.Q≤popB (setB kb i):=by omega
    have hd0:datS x (.part kb) i=endS x:=by simp [datS,hgb,hlt]
    by_cases hm:x.m=sumP x.s x.a
    case neg =>
     exact hbad 12 (by decide) (by decide) (by decide) hgb hge (fun rc=>by rw [zGD hx hbo hge,if_neg hm];rfl) (by rw [hd0,endS,if_neg hm])
    by_cases hc:checkP x.a=0
    case neg =>
     have hci:=zqE x.a
     exact hbad (checkP x.a).toNat (by omega) (by omega) (by omega) hgb hge (fun rc=>by rw [zGD hx hbo hge,if_pos hm,if_neg hc,show (((checkP x.a).toNat:Nat):Int)=checkP x.a from by omega]) (by rw [hd0,endS,if_pos hm,if_neg hc])
    have hd:datS x (.part kb) i=.ready:=by rw [hd0,endS,if_pos hm,if_pos hc]
    refine (zXK (d:=parD x kb) h2.at_ hp (by rw [h1.lo];omega) (by rw [h1.n];omega) i hi hgb x.s x.m (chunkP x.a i) hokb hsz hge (fun rc=>by rw [zsB hx h1.ok i hi,zGD hx hbo hge,if_pos hm,if_pos hc]) A2 c2 FS hS1 (fun j hj e=>hFS j hj (h1.f1 j (by rw [← h1.st];exact e)))).mono ?_
    rintro e w' ⟨rfl,p',G',k',Gk',hr,hk,hwb,hlo,hn,hnt,hff⟩
    have hk2:=(hg1.mono (T:=F) (fun _ h=>h.elim)).trans hk (fun j e=>.inl (h1.f1 j (by rw [← h1.st];exact e)))
    have hsm:=hr.small
    rw [zsB hx h1.ok i hi] at hr
    rw [h1.st] at hff
    refine ⟨_,rfl,by show RvOut (failK (datS x (.part kb) i)) _ _ _;rw [hd];rfl,fun j=>RF g st b p' k' j∨G' j∨Gk' j,by rw [hd];exact ⟨_,b,p',setB kb i,G',k',Gk',⟨hr,h1.st,h1.quota,h1.s,h1.m,h1.err,hbo,by rw [hlo,h1.lo,hkl];omega,by rw [hn,h1.n,hkl],fun j hj=>.inl hj,fun j hj=>.inr (.inl hj),fun j hj=>.inr (.inr hj)⟩,rfl,hbo.full.1 hge,hc⟩,hk2,fun j hj=>?_,fun j hj=>?_⟩
    ·rcases hff j hj with (e | e | e) | e
     ·exact .inl (h1.f1 j e)
     ·exact .inl (h1.f2 j e)
     ·exact .inl (h1.f3 j e)
     ·exact .inr (Nat.le_trans hw1 e)
    ·rcases hj with e | e | e
     ·exact hsm.1 j (by rw [show ({ rc with closed:=false,resumed:=false,phase:=2 }:RC).st=st from h1.st];exact e)
     ·exact hsm.2.1 j e
     ·exact hsm.2.2 j e
theorem zcC (A:Option Addr) (c:Nat) (l:List Int) (w:World) (h:SliceR 1 (.slice A l.length c) l.length (ints l) w) (hb:∀ x∈l,0≤x∧x≤100000) (seg at_ n:Int) :
    Calls Tryz.prog 257 #[.slice A l.length c,.int .i64 seg,.int .i64 at_,.int .i64 n] w fun e w'=>e=.returned (.bool (withinB l seg at_ n))∧w=w':=by
 have H:=LH h
 have HB:=LH hb
 clear h hb
 by_cases h0:0≤seg
 case neg =>
  have HF:Hid (withinB l seg at_ n=false):=decide_eq_false (fun ⟨g,_⟩=>by omega)
  go_enter Tryz.func257,Tryz.ntmps257
  go_wp2
  go_ret
  exact ⟨by rw [HF.out];rfl,rfl⟩
 by_cases h1:seg<l.length
 case neg =>
  have HF:Hid (withinB l seg at_ n=false):=decide_eq_false (fun ⟨_,g,_⟩=>by omega)
  go_enter Tryz.func257,Tryz.ntmps257
  go_wp2
  go_ret
  exact ⟨by rw [HF.out];rfl,rfl⟩
 by_cases h2:0≤at_
 case neg =>
  have HF:Hid (withinB l seg at_ n=false):=decide_eq_false (fun ⟨_,_,g,_⟩=>by omega)
  go_enter Tryz.func257,Tryz.ntmps257
  go_wp2
  go_ret
  exact ⟨by rw [HF.out];rfl,rfl⟩
 by_cases h3:0≤n
 case neg =>
  have HF:Hid (withinB l seg at_ n=false):=decide_eq_false (fun ⟨_,_,_,g,_⟩=>by omega)
  go_enter Tryz.func257,Tryz.ntmps257
  go_wp2
  go_ret
  exact ⟨by rw [HF.out];rfl,rfl⟩
 obtain ⟨k,rfl⟩:∃ k:Nat,seg=k:=⟨seg.toNat,by omega⟩
 have hk:k<l.length:=by omega
 obtain ⟨ad,rfl,q0⟩:=SliceR.int_at (k:=.i64) H.out k hk
 have hgd:l.getD k 0=l[k]:=by simp [List.getD_eq_getElem?_getD,List.getElem?_eq_getElem hk]
 obtain ⟨b0,b1⟩:=HB.out _ (List.getElem_mem hk)
 by_cases h4:at_≤l[k]
 case neg =>
  have HF:Hid (withinB l k at_ n=false):=decide_eq_false (fun ⟨_,_,_,_,g⟩=>by rw [Int.toNat_natCast,hgd] at g;omega)
  clear hgd
  go_enter Tryz.func257,Tryz.ntmps257
  go_wp2
  go_ret
  exact ⟨by rw [HF.out];rfl,rfl⟩
 have hw:IntKind.i64.wrap (l[k]-at_)=l[k]-at_:=IntWalk.i64_in _ (by omega)
 by_cases h5:n≤l[k]-at_
 ·have HF:Hid (withinB l k at_ n=true):=decide_eq_true ⟨by omega,by omega,by omega,by omega,by rw [Int.toNat_natCast,hgd];omega⟩
  clear hgd
  go_enter Tryz.func257,Tryz.ntmps257
  go_wp2
  go_ret
  exact ⟨by rw [HF.out];rfl,rfl⟩
 ·have HF:Hid (withinB l k at_ n=false):=decide_eq_false (fun ⟨_,_,_,_,g⟩=>by rw [Int.toNat_natCast,hgd] at g;omega)
  clear hgd
  go_enter Tryz.func257,Tryz.ntmps257
  go_wp2
  go_ret
  exact ⟨by rw [HF.out];rfl,rfl⟩
theorem zJJ {a:List (List Int)} (ho:OkA a):∀ x∈szs a,0≤x∧x≤100000:=fun x hx=>by
 obtain ⟨s,hs,rfl⟩:=List.mem_map.1 hx
 have:=ho.words s hs
 omega
theorem zKG {a:List (List Int)} {seg at_:Int} (h:withinB (szs a) seg at_ 1=false):wordA a seg at_=(0,20):=by
 refine zkB (fun ⟨h0,h1,h2,h3⟩=>?_)
 have:withinB (szs a) seg at_ 1=true:=by
  obtain ⟨k,rfl⟩:∃ k:Nat,seg=k:=⟨seg.toNat,by omega⟩
  have hk:k<a.length:=by omega
  refine decide_eq_true ⟨h0,by rw [zi];exact h1,h2,by omega,?_⟩
  rw [Int.toNat_natCast] at h3 ⊢
  have e1:a.getD k []=a[k]:=by simp [List.getD_eq_getElem?_getD,List.getElem?_eq_getElem hk]
  have e2:(szs a).getD k 0=a[k].length:=by simp [szs,List.getD_eq_getElem?_getD,List.getElem?_eq_getElem hk]
  rw [e1] at h3
  rw [e2]
  omega
 rw [h] at this
 cases this
theorem ztG (a:List (List Int)) (ho:OkA a) (A:Option Addr) (c:Nat) (w:World) (h:RowsR .u64 a (.slice A a.length c) w) (seg at_:Int) :
    Calls Tryz.prog 248 #[.slice A a.length c,.int .i64 seg,.int .i64 at_] w fun e w'=>e=.returned (.tuple #[.int .u64 (wordA a seg at_).1,.int .i64 (wordA a seg at_).2])∧Grow w w':=by
 have HS:=LH (zoA a A c w h ho.segs)
 have HBD:=LH (zJJ ho)
 have H:=LH h
 clear h ho
 go_enter Tryz.func248,Tryz.ntmps248
 go_wp2_with fail
 refine HS.out.mono ?_
 rintro e w1 ⟨A1,c1,rfl,hg,hown⟩
 have HG:=LH hg
 have HO:=LH (SliceR.of_own hown)
 replace H:=LH (H.out.grow hg)
 clear hg hown HS
 go_wp2_with fail
 refine (zcC A1 c1 (szs a) w1 HO.out HBD.out seg at_ 1).mono ?_
 rintro e w2 ⟨rfl,rfl⟩
 rcases hb:withinB (szs a) seg at_ 1 with _ | _
 ·have HF:=LH (zKG hb)
  clear hb
  go_wp2
  go_ret2
  rw [HF.out]
  exact ⟨rfl,HG.out⟩
 ·unfold withinB at hb
  rw [decide_eq_true_eq] at hb
  obtain ⟨h0,h1,h2,_,h3⟩:=hb
  obtain ⟨k,rfl⟩:∃ k:Nat,seg=k:=⟨seg.toNat,by omega⟩
  obtain ⟨i,rfl⟩:∃ i:Nat,at_=i:=⟨at_.toNat,by omega⟩
  rw [zi] at h1
  have hk:k<a.length:=by omega
  have e2:(szs a).getD k 0=a[k].length:=by simp [szs,List.getD_eq_getElem?_getD,List.getElem?_eq_getElem hk]
  rw [Int.toNat_natCast,e2] at h3
  have hi:i<a[k].length:=by omega
  obtain ⟨ad,A',c',rfl,q0,hs⟩:=H.out.at_ k hk
  obtain ⟨ad2,rfl,q1⟩:=SliceR.int_at (k:=.u64) hs i hi
  have hgd:a.getD k []=a[k]:=by simp [List.getD_eq_getElem?_getD,List.getElem?_eq_getElem hk]
  have HF:Hid (wordA a k i=(a[k][i],0)):=by
   show _=_
   unfold wordA
   rw [if_pos ⟨by omega,by omega,by omega,by rw [Int.toNat_natCast,hgd];omega⟩,Int.toNat_natCast,hgd,Int.toNat_natCast]
   simp [List.getD_eq_getElem?_getD,List.getElem?_eq_getElem hi]
  have hk':(k:Int)<a.length:=by omega
  have hi':(i:Int)<a[k].length:=by omega
  clear hgd hs h0 h1 h2 h3 e2
  go_wp2
  go_ret2
  rw [HF.out]
  exact ⟨rfl,HG.out⟩
theorem zDB (a:List (List Int)) (ho:OkA a) (A:Option Addr) (c:Nat) (w:World) (h:RowsR .u64 a (.slice A a.length c) w) (seg at_:Int) :
    Calls Tryz.prog 208 #[.agg #[.slice A a.length c,.bool false,.slice none 0 0],.int .i64 seg,.int .i64 at_] w fun e w'=>e=.returned (.tuple #[.int .u64 (wordA a seg at_).1,.int .i64 (wordA a seg at_).2])∧Grow w w':=by
 have hga:=(Keep.refl NoB w).alloc (.cells #[.slice A a.length c,.bool false,.slice none 0 0] 186)
 have HG:=LH hga
 have HC:=LH (heap_alloc_new w (.cells #[.slice A a.length c,.bool false,.slice none 0 0] 186))
 have HW:=LH (ztG a ho A c _ (h.grow hga) seg at_)
 obtain ⟨m0,m1,m2,mf⟩:=zI HC.out
 clear h ho hga
 generalize hR:wordA a seg at_=R at *
 clear hR
 obtain ⟨x,e9⟩:=R
 go_enter Tryz.func208,Tryz.ntmps208
 go_wp2_with fail
 refine HW.out.mono ?_
 rintro e w1 ⟨rfl,hg⟩
 replace HG:=LH (HG.out.grow hg)
 replace HC:=LH (Grow.heap hg HC.out)
 clear hg m0 m1 m2 mf
 obtain ⟨m0,m1,m2,mf⟩:=zI HC.out
 by_cases he:e9=0
 ·have heb:(e9==0)=true:=by simp [he]
  clear he
  go_wp2
  go_ret2
  exact ⟨rfl,HG.out⟩
 ·have heb:(e9==0)=false:=by simpa using he
  clear he
  go_wp2
  go_ret2
  exact ⟨rfl,HG.out⟩
def QWordsPost (p:Pt) (w:World) (e:Ending) (w':World):Prop:=e=.returned (.tuple #[.int .i64 (ptrWords p).1,.int .i64 (ptrWords p).2])∧Grow w w'
theorem zHD (p:Pt) (w:World) (hp:PtOk p):Calls Tryz.prog 228 #[.agg p.cs] w (QWordsPost p w):=by
 have hg:=(Keep.refl NoB w).alloc (.cells p.cs 120)
 have hd:=heap_alloc_new w (.cells p.cs 120)
 have hdat:=hp.d
 have hptr:=hp.q
 have hcnt:=hp.c
 obtain ⟨kind,off,data,ptrs,size,count,seg,dbl⟩:=p
 simp only [Pt.cs] at hg hd hdat hptr hcnt ⊢
 obtain ⟨c0,c1,c2,c3,c4,c5,c6,c7,cf⟩:=zO hd
 have Hg:=LH hg
 clear hg hd hp
 by_cases k0:kind=0
 ·subst k0
  go_enter Tryz.func228,Tryz.ntmps228
  go_wp2
  go_ret2
  exact ⟨rfl,Hg.out⟩
 have k0b:(kind==0)=false:=beq_eq_false_iff_ne.2 k0
 by_cases k1:kind=1
 ·subst k1
  clear k0
  go_enter Tryz.func228,Tryz.ntmps228
  go_wp2
  go_ret2
  exact ⟨rfl,Hg.out⟩
 have k1b:(kind==1)=false:=beq_eq_false_iff_ne.2 k1
 by_cases k3:kind=3
 ·subst k3
  clear k0 k1
  cases dbl
  all_goals
   go_enter Tryz.func228,Tryz.ntmps228
   go_wp2
   go_ret2
   exact ⟨rfl,Hg.out⟩
 have k3b:(kind==3)=false:=beq_eq_false_iff_ne.2 k3
 by_cases k2:kind=2
 ·subst k2
  clear k0 k1 k3
  by_cases s2:size=2
  ·subst s2
   go_enter Tryz.func228,Tryz.ntmps228
   go_wp2
   go_ret2
   refine ⟨?_,Hg.out⟩
   simp [ptrWords]
  have s2b:(size==2)=false:=beq_eq_false_iff_ne.2 s2
  by_cases s5:size=5
  ·subst s5
   clear s2
   go_enter Tryz.func228,Tryz.ntmps228
   go_wp2
   go_ret2
   exact ⟨rfl,Hg.out⟩
  have s5b:(size==5)=false:=beq_eq_false_iff_ne.2 s5
  by_cases s6:size=6
  ·subst s6
   clear s2 s5
   go_enter Tryz.func228,Tryz.ntmps228
   go_wp2
   go_ret2
   exact ⟨rfl,Hg.out⟩
  have s6b:(size==6)=false:=beq_eq_false_iff_ne.2 s6
  have E:Hid (ptrWords ⟨2,off,data,ptrs,size,count,seg,dbl⟩=(0,23)):=by
   refine LH ?_
   simp [ptrWords,s2,s5,s6]
  clear s2 s5 s6
  go_enter Tryz.func228,Tryz.ntmps228
  go_wp2
  go_ret2
  exact ⟨by rw [E.out];rfl,Hg.out⟩
 have k2b:(kind==2)=false:=beq_eq_false_iff_ne.2 k2
 have E:Hid (ptrWords ⟨kind,off,data,ptrs,size,count,seg,dbl⟩=(0,23)):=by
  refine LH ?_
  simp [ptrWords,k0,k1,k2,k3]
 clear k0 k1 k2 k3
 go_enter Tryz.func228,Tryz.ntmps228
 go_wp2
 go_ret2
 exact ⟨by rw [E.out];rfl,Hg.out⟩
theorem zcA (o:Ob) (w:World) (ho:ObOk o):Calls Tryz.prog 174 #[.agg o.cs] w fun e w'=>e=.returned (.int .i64 (obWords o))∧Grow w w':=by
 have hg:=(Keep.refl NoB w).alloc (.cells o.cs 257)
 have hd:=heap_alloc_new w (.cells o.cs 257)
 have Hg:=LH hg
 have HO:=LH ho
 obtain ⟨c0,c1,c2,c3,c4,c5,c6,cf⟩:=zC (show (w.alloc (.cells o.cs 257)).heap[w.heap.size]? = some (.cells #[.int .i64 o.kind,.int .i64 o.seg,.int .i64 o.at_,.int .i64 o.data,.int .i64 o.ptrs,.int .i64 o.size,.int .i64 o.count] 257 (0,0)) from hd)
 simp only [Ob.cs] at c0 c1 c2 c3 c4 c5 c6 cf Hg ⊢
 clear hg hd ho
 by_cases k3:o.kind=3
 ·have E:Hid (obWords o=0):=LH (by simp [obWords,k3])
  have k3b:(o.kind==3)=true:=beq_iff_eq.2 k3
  clear k3
  go_enter Tryz.func174,Tryz.ntmps174
  go_wp2
  go_ret
  exact ⟨by rw [E.out];rfl,Hg.out⟩
 ·have E:Hid (obWords o=(ptrWords (obP o)).1):=LH (by simp [obWords,k3])
  have k3b:(o.kind==3)=false:=beq_eq_false_iff_ne.2 k3
  clear k3
  go_enter Tryz.func174,Tryz.ntmps174
  go_wp2_with fail
  refine (show Calls Tryz.prog 228 #[.agg #[.int .i64 o.kind,.int .i64 0,.int .i64 o.data,.int .i64 o.ptrs,.int .i64 o.size,.int .i64 o.count,.int .i64 0,.bool false]] _ (QWordsPost (obP o) _) from zHD (obP o) _ (zoD HO.out)).mono ?_
  rintro e w2 ⟨rfl,hg2⟩
  have Hg2:=LH (Hg.out.grow hg2)
  clear hg2
  go_wp2
  go_ret
  exact ⟨by rw [E.out];rfl,Hg2.out⟩
theorem zGC (p:Pt) (w:World):Calls Tryz.prog 224 #[.agg p.cs] w fun e w'=>e=.returned (.bool (isNear p))∧Grow w w':=by
 have hd:=heap_alloc_new w (.cells p.cs 120)
 have Hg:=LH ((Keep.refl NoB w).alloc (.cells p.cs 120))
 obtain ⟨c0,c1,c2,c3,c4,c5,c6,c7,cf⟩:=zO (show (w.alloc (.cells p.cs 120)).heap[w.heap.size]? = some (.cells #[.int .i64 p.kind,.int .i64 p.off,.int .i64 p.data,.int .i64 p.ptrs,.int .i64 p.size,.int .i64 p.count,.int .i64 p.seg,.bool p.dbl] 120 (0,0)) from hd)
 simp only [Pt.cs] at c0 c1 c2 c3 c4 c5 c6 c7 cf Hg ⊢
 clear hd
 by_cases k1:p.kind=1
 ·have E:Hid (isNear p=true):=LH (by simp [isNear,k1])
  have k1b:(p.kind==1)=true:=beq_iff_eq.2 k1
  clear k1
  go_enter Tryz.func224,Tryz.ntmps224
  go_wp2
  go_ret
  exact ⟨by rw [E.out];rfl,Hg.out⟩
 ·have E:Hid (isNear p=(p.kind==2)):=LH (by simp [isNear,k1])
  have k1b:(p.kind==1)=false:=beq_eq_false_iff_ne.2 k1
  clear k1
  go_enter Tryz.func224,Tryz.ntmps224
  go_wp2
  go_ret
  exact ⟨by rw [E.out];rfl,Hg.out⟩
def QObPost (o:Ob) (w:World) (e:Ending) (w':World):Prop:=e=.returned (.agg #[.int .i64 o.kind,.int .i64 o.seg,.int .i64 o.at_,.int .i64 o.data,.int .i64 o.ptrs,.int .i64 o.size,.int .i64 o.count])∧Grow w w'
theorem zQB (p:Pt) (seg at_:Int) (w:World):Calls Tryz.prog 226 #[.agg #[.int .i64 p.kind,.int .i64 p.off,.int .i64 p.data,.int .i64 p.ptrs,.int .i64 p.size,.int .i64 p.count,.int .i64 p.seg,.bool p.dbl],.int .i64 seg,.int .i64 at_] w (QObPost (obOf p seg at_) w):=by
 have hga:=(Keep.refl NoB w).alloc (.cells #[.int .i64 p.kind,.int .i64 p.off,.int .i64 p.data,.int .i64 p.ptrs,.int .i64 p.size,.int .i64 p.count,.int .i64 p.seg,.bool p.dbl] 120)
 have hgb:=hga.alloc (.cells #[.int .i64 p.kind,.int .i64 seg,.int .i64 at_,.int .i64 p.data,.int .i64 p.ptrs,.int .i64 p.size,.int .i64 p.count] 257)
 have h1:=zU w (.cells #[.int .i64 p.kind,.int .i64 p.off,.int .i64 p.data,.int .i64 p.ptrs,.int .i64 p.size,.int .i64 p.count,.int .i64 p.seg,.bool p.dbl] 120) (.cells #[.int .i64 0,.int .i64 0,.int .i64 0,.int .i64 0,.int .i64 0,.int .i64 0,.int .i64 0] 257)
 obtain ⟨c0,c1,c2,c3,c4,c5,c6,c7,cf⟩:=zO h1.1
 have h2:=zU w (.cells #[.int .i64 p.kind,.int .i64 p.off,.int .i64 p.data,.int .i64 p.ptrs,.int .i64 p.size,.int .i64 p.count,.int .i64 p.seg,.bool p.dbl] 120) (.cells #[.int .i64 p.kind,.int .i64 seg,.int .i64 at_,.int .i64 p.data,.int .i64 p.ptrs,.int .i64 p.size,.int .i64 p.count] 257)
 have HC:=LH h2.2.1
 have HG:=LH hgb
 clear hga hgb h1 h2
 go_enter Tryz.func226,Tryz.ntmps226
 go_wp2
 obtain ⟨z0,z1,z2,z3,z4,z5,z6,zf⟩:=zC HC.out
 refine bodyPost_ret (v:=.agg #[.int .i64 p.kind,.int .i64 seg,.int .i64 at_,.int .i64 p.data,.int .i64 p.ptrs,.int .i64 p.size,.int .i64 p.count]) ?_ rfl ⟨rfl,HG.out⟩
 rw [zT rfl];go_simp
theorem ret7 {P:Program} {fn:Func} {R:Ending→World→Prop} {a:Act} {w0 w1:World} {b t:Nat} {x0 x1 x2 x3 x4 x5 x6 v0 v1 v2 v3 v4 v5 v6 e:Value} (hg:Grow w0 w1) (hb:w0.heap.size≤b) (hz:w1.heap[b]? = some (.cells #[x0,x1,x2,x3,x4,x5,x6] t (0,0))) (hr:∀ w':World,w'.cell? ⟨b,0,none⟩=some v0→w'.cell? ⟨b,1,none⟩=some v1→w'.cell? ⟨b,2,none⟩=some v2→w'.cell? ⟨b,3,none⟩=some v3→w'.cell? ⟨b,4,none⟩=some v4→w'.cell? ⟨b,5,none⟩=some v5→w'.cell? ⟨b,6,none⟩=some v6→(∀ o,w'.frozen? ⟨b,o,none⟩=false)→(results fn a.tmps).run P w'=.ok (.tuple #[.agg #[v0,v1,v2,v3,v4,v5,v6],e]) w') (hd:a.defers=[]) (hR:∀ w',Grow w0 w'→R (.returned (.tuple #[.agg #[v0,v1,v2,v3,v4,v5,v6],e])) w'):bodyPost P fn R .ret a (((((((w1.setCell ⟨b,0,none⟩ v0).setCell ⟨b,1,none⟩ v1).setCell ⟨b,2,none⟩ v2).setCell ⟨b,3,none⟩ v3).setCell ⟨b,4,none⟩ v4).setCell ⟨b,5,none⟩ v5).setCell ⟨b,6,none⟩ v6):=by
 have h1:(((((((w1.setCell ⟨b,0,none⟩ v0).setCell ⟨b,1,none⟩ v1).setCell ⟨b,2,none⟩ v2).setCell ⟨b,3,none⟩ v3).setCell ⟨b,4,none⟩ v4).setCell ⟨b,5,none⟩ v5).setCell ⟨b,6,none⟩ v6).heap[b]? = some (.cells #[v0,v1,v2,v3,v4,v5,v6] t (0,0)):=by
  simp only [World.setCell,Array.getElem?_modify]
  simp [hz]
 have h2:Grow w0 (((((((w1.setCell ⟨b,0,none⟩ v0).setCell ⟨b,1,none⟩ v1).setCell ⟨b,2,none⟩ v2).setCell ⟨b,3,none⟩ v3).setCell ⟨b,4,none⟩ v4).setCell ⟨b,5,none⟩ v5).setCell ⟨b,6,none⟩ v6):=(((((((hg.setCell (p:=⟨b,0,none⟩) (.inr hb) _).setCell (p:=⟨b,1,none⟩) (.inr hb) _).setCell (p:=⟨b,2,none⟩) (.inr hb) _).setCell (p:=⟨b,3,none⟩) (.inr hb) _).setCell (p:=⟨b,4,none⟩) (.inr hb) _).setCell (p:=⟨b,5,none⟩) (.inr hb) _).setCell (p:=⟨b,6,none⟩) (.inr hb) _)
 exact bodyPost_ret (hr _ (World.news_of_block h1 0 _ rfl) (World.news_of_block h1 1 _ rfl) (World.news_of_block h1 2 _ rfl) (World.news_of_block h1 3 _ rfl) (World.news_of_block h1 4 _ rfl) (World.news_of_block h1 5 _ rfl) (World.news_of_block h1 6 _ rfl) (fun o=>zM o h1)) hd (hR _ h2)
theorem ret8 {P:Program} {fn:Func} {R:Ending→World→Prop} {a:Act} {w0 w1:World} {b t:Nat} {x0 x1 x2 x3 x4 x5 x6 x7 v0 v1 v2 v3 v4 v5 v6 v7 e:Value} (hg:Grow w0 w1) (hb:w0.heap.size≤b) (hz:w1.heap[b]? = some (.cells #[x0,x1,x2,x3,x4,x5,x6,x7] t (0,0))) (hr:∀ w':World,w'.cell? ⟨b,0,none⟩=some v0→w'.cell? ⟨b,1,none⟩=some v1→w'.cell? ⟨b,2,none⟩=some v2→w'.cell? ⟨b,3,none⟩=some v3→w'.cell? ⟨b,4,none⟩=some v4→w'.cell? ⟨b,5,none⟩=some v5→w'.cell? ⟨b,6,none⟩=some v6→w'.cell? ⟨b,7,none⟩=some v7→(∀ o,w'.frozen? ⟨b,o,none⟩=false)→(results fn a.tmps).run P w'=.ok (.tuple #[.agg #[v0,v1,v2,v3,v4,v5,v6,v7],e]) w') (hd:a.defers=[]) (hR:∀ w',Grow w0 w'→R (.returned (.tuple #[.agg #[v0,v1,v2,v3,v4,v5,v6,v7],e])) w'):bodyPost P fn R .ret a ((((((((w1.setCell ⟨b,0,none⟩ v0).setCell ⟨b,1,none⟩ v1).setCell ⟨b,2,none⟩ v2).setCell ⟨b,3,none⟩ v3).setCell ⟨b,4,none⟩ v4).setCell ⟨b,5,none⟩ v5).setCell ⟨b,6,none⟩ v6).setCell ⟨b,7,none⟩ v7):=by
 have h1:((((((((w1.setCell ⟨b,0,none⟩ v0).setCell ⟨b,1,none⟩ v1).setCell ⟨b,2,none⟩ v2).setCell ⟨b,3,none⟩ v3).setCell ⟨b,4,none⟩ v4).setCell ⟨b,5,none⟩ v5).setCell ⟨b,6,none⟩ v6).setCell ⟨b,7,none⟩ v7).heap[b]? = some (.cells #[v0,v1,v2,v3,v4,v5,v6,v7] t (0,0)):=by
  simp only [World.setCell,Array.getElem?_modify]
  simp [hz]
 have h2:Grow w0 ((((((((w1.setCell ⟨b,0,none⟩ v0).setCell ⟨b,1,none⟩ v1).setCell ⟨b,2,none⟩ v2).setCell ⟨b,3,none⟩ v3).setCell ⟨b,4,none⟩ v4).setCell ⟨b,5,none⟩ v5).setCell ⟨b,6,none⟩ v6).setCell ⟨b,7,none⟩ v7):=((((((((hg.setCell (p:=⟨b,0,none⟩) (.inr hb) _).setCell (p:=⟨b,1,none⟩) (.inr hb) _).setCell (p:=⟨b,2,none⟩) (.inr hb) _).setCell (p:=⟨b,3,none⟩) (.inr hb) _).setCell (p:=⟨b,4,none⟩) (.inr hb) _).setCell (p:=⟨b,5,none⟩) (.inr hb) _).setCell (p:=⟨b,6,none⟩) (.inr hb) _).setCell (p:=⟨b,7,none⟩) (.inr hb) _)
 exact bodyPost_ret (hr _ (World.news_of_block h1 0 _ rfl) (World.news_of_block h1 1 _ rfl) (World.news_of_block h1 2 _ rfl) (World.news_of_block h1 3 _ rfl) (World.news_of_block h1 4 _ rfl) (World.news_of_block h1 5 _ rfl) (World.news_of_block h1 6 _ rfl) (World.news_of_block h1 7 _ rfl) (fun o=>zM o h1)) hd (hR _ h2)
theorem zhB {P:Program} {ops:Array Oper} {Q:Exit→Act→World→Prop} {ds:List Nat} {S:Nat→Prop} {R:Act→World→Prop} {acts reads rest:List Nat} {i:Nat} {o:Oper} {a:Act} {w:World} {T t:Nat} {x0 x1 x2 x3 x4 x5 x6 v0 v1 v2 v3 v4 v5 v6:Value} (hz:w.heap[T]? = some (.cells #[x0,x1,x2,x3,x4,x5,x6] t (0,0))) (z:∀ w',Keep (fun j=>j=T) w w'→w'.heap[T]? = some (.cells #[v0,v1,v2,v3,v4,v5,v6] t (0,0))→wpOrdC S P ops Q R acts reads ds rest a w') (hl:ops.toList[i]? = some o:=by exact rfl) (ha:acts.contains i=true:=by exact rfl) (hN:o.dst=none:=by exact rfl) (hg:o.guard=none:=by exact rfl) (hd:i∈ds:=by simp) (hy:(execOp a.eval o).run P w=.ok .skip (((((((w.setCell ⟨T,0,none⟩ v0).setCell ⟨T,1,none⟩ v1).setCell ⟨T,2,none⟩ v2).setCell ⟨T,3,none⟩ v3).setCell ⟨T,4,none⟩ v4).setCell ⟨T,5,none⟩ v5).setCell ⟨T,6,none⟩ v6):=by go_simp;with_reducible rfl):wpOrdC S P ops Q R acts reads ds (i :: rest) a w:=by
 refine zK hl ha hN hg _ hy (fun h=>absurd hd h) (z _ ((((((((Keep.refl (fun j=>j=T) w).setCell (p:=⟨T,0,none⟩) (.inl rfl) _).setCell (p:=⟨T,1,none⟩) (.inl rfl) _).setCell (p:=⟨T,2,none⟩) (.inl rfl) _).setCell (p:=⟨T,3,none⟩) (.inl rfl) _).setCell (p:=⟨T,4,none⟩) (.inl rfl) _).setCell (p:=⟨T,5,none⟩) (.inl rfl) _).setCell (p:=⟨T,6,none⟩) (.inl rfl) _) ?_)
 simp only [World.setCell,Array.getElem?_modify]
 simp [hz]
def QPAPost (wd:Int→Int→Int×Int) (seg at_:Int) (w:World) (e:Ending) (w':World):Prop:=e=.returned (.tuple #[.agg #[.int .i64 (ptrAt wd seg at_).1.kind,.int .i64 (ptrAt wd seg at_).1.off,.int .i64 (ptrAt wd seg at_).1.data,.int .i64 (ptrAt wd seg at_).1.ptrs,.int .i64 (ptrAt wd seg at_).1.size,.int .i64 (ptrAt wd seg at_).1.count,.int .i64 (ptrAt wd seg at_).1.seg,.bool (ptrAt wd seg at_).1.dbl],.int .i64 (ptrAt wd seg at_).2])∧Grow w w'
theorem zFE (a:List (List Int)) (ho:OkA a) (A:Option Addr) (c:Nat) (w:World) (h:RowsR .u64 a (.slice A a.length c) w) (seg at_:Int):Calls Tryz.prog 223 #[.agg #[.slice A a.length c,.bool false,.slice none 0 0],.int .i64 seg,.int .i64 at_] w (QPAPost (wordA a) seg at_ w):=by
 have hga:=(Keep.refl NoB w).alloc (.cells #[.slice A a.length c,.bool false,.slice none 0 0] 186)
 have hgb:=hga.alloc (.cells #[.int .i64 0,.int .i64 0,.int .i64 0,.int .i64 0,.int .i64 0,.int .i64 0,.int .i64 0,.bool false] 120)
 have h2:=zU w (.cells #[.slice A a.length c,.bool false,.slice none 0 0] 186) (.cells #[.int .i64 0,.int .i64 0,.int .i64 0,.int .i64 0,.int .i64 0,.int .i64 0,.int .i64 0,.bool false] 120)
 have HZ:=LH h2.2.1
 obtain ⟨m0,m1,m2,mf⟩:=zI h2.1
 have HG:=LH hgb
 have HW:=LH (zDB a ho A c _ (h.grow hgb) seg at_)
 have HV:=LH ((zu ho).val seg at_)
 have E0:Hid (ptrAt (wordA a) seg at_=if (wordA a seg at_).2=0 then ptrDec (wordA a seg at_).1 else (pt0,(wordA a seg at_).2)):=LH rfl
 have HP:Hid (∀ e w',(e=.returned (.tuple #[.agg #[.int .i64 (ptrAt (wordA a) seg at_).1.kind,.int .i64 (ptrAt (wordA a) seg at_).1.off,.int .i64 (ptrAt (wordA a) seg at_).1.data,.int .i64 (ptrAt (wordA a) seg at_).1.ptrs,.int .i64 (ptrAt (wordA a) seg at_).1.size,.int .i64 (ptrAt (wordA a) seg at_).1.count,.int .i64 (ptrAt (wordA a) seg at_).1.seg,.bool (ptrAt (wordA a) seg at_).1.dbl],.int .i64 (ptrAt (wordA a) seg at_).2])∧Grow w w')→QPAPost (wordA a) seg at_ w e w'):=LH (fun _ _ h=>h)
 generalize ptrAt (wordA a) seg at_=RP at E0 HP
 generalize QPAPost (wordA a) seg at_ w=QP at HP ⊢
 generalize wordA a seg at_=X at *
 obtain ⟨x,er⟩:=X
 clear h ho hga hgb h2
 go_enter Tryz.func223,Tryz.ntmps223
 go_wp2_with fail
 refine HW.out.mono ?_
 rintro e w1 ⟨rfl,hg⟩
 replace HG:=LH (HG.out.grow hg)
 replace HZ:=LH (Grow.heap hg HZ.out)
 clear hg m0 m1 m2 mf HW
 by_cases he:er=0
 ·have heb:(er != 0)=false:=by simp [he]
  replace E0:=LH (E0.out.trans (if_pos he))
  clear he
  have hv:=HV.out
  go_wp2_with fail
  refine (zXA x _ hv.1 hv.2).mono ?_
  rintro e w2 ⟨rfl,hg⟩
  rw [← E0.out]
  have hgc:=(Keep.refl NoB w2).alloc (.cells #[.int .i64 RP.1.kind,.int .i64 RP.1.off,.int .i64 RP.1.data,.int .i64 RP.1.ptrs,.int .i64 RP.1.size,.int .i64 RP.1.count,.int .i64 RP.1.seg,.bool RP.1.dbl] 120)
  replace HG:=LH (HG.out.grow (hg.grow hgc))
  have hz2:=Grow.heap hg HZ.out
  have hne:w2.heap.size≠w.heap.size+1:=by have:=(gE hz2).1;omega
  have hne2:w.heap.size+1≠w2.heap.size:=fun e=>hne e.symm
  replace HZ:=LH (Grow.heap hgc hz2)
  obtain ⟨c0,c1,c2,c3,c4,c5,c6,c7,cf⟩:=zO (heap_alloc_new w2 (.cells #[.int .i64 RP.1.kind,.int .i64 RP.1.off,.int .i64 RP.1.data,.int .i64 RP.1.ptrs,.int .i64 RP.1.size,.int .i64 RP.1.count,.int .i64 RP.1.seg,.bool RP.1.dbl] 120))
  clear hg hgc hz2 hv heb
  obtain ⟨y0,y1,y2,y3,y4,y5,y6,y7,yf⟩:=zO HZ.out
  go_wp2
  refine ret8 HG.out (Nat.le_succ _) HZ.out (fun w' z0 z1 z2 z3 z4 z5 z6 z7 zf=>?_) rfl (fun w' hg=>(HP.out _ _ ⟨rfl,hg⟩))
  rw [results_cell_tmp rfl];go_simp
 ·have heb:(er != 0)=true:=by simp [he]
  replace E0:=LH (E0.out.trans (if_neg he))
  clear he
  obtain ⟨y0,y1,y2,y3,y4,y5,y6,y7,yf⟩:=zO HZ.out
  go_wp2
  refine ret8 HG.out (Nat.le_succ _) HZ.out (fun w' z0 z1 z2 z3 z4 z5 z6 z7 zf=>?_) rfl (fun w' hg=>(HP.out _ _ ⟨by rw [E0.out];rfl,hg⟩))
  rw [results_cell_tmp rfl];go_simp
def foundO (sz:List Int) (o:Ob):Ob×Int :=
 if (ptrWords (obP o)).2=0 then if withinB sz o.seg o.at_ (ptrWords (obP o)).1 then (o,0) else (ob0,20) else (ob0,(ptrWords (obP o)).2)
theorem zKJ (sz:List Int) (p:Pt) (seg at_:Int):foundP sz p seg at_=foundO sz (obOf p seg at_):=rfl
def QFPost (r:Ob×Int) (w:World) (e:Ending) (w':World):Prop:=e=.returned (.tuple #[.agg #[.int .i64 r.1.kind,.int .i64 r.1.seg,.int .i64 r.1.at_,.int .i64 r.1.data,.int .i64 r.1.ptrs,.int .i64 r.1.size,.int .i64 r.1.count],.int .i64 r.2])∧Grow w w'
theorem zIA (a:List (List Int)) (ho:OkA a) (A:Option Addr) (c:Nat) (w:World) (h:RowsR .u64 a (.slice A a.length c) w) (o:Ob) (hk:ObOk o):Calls Tryz.prog 225 #[.agg #[.slice A a.length c,.bool false,.slice none 0 0],.agg #[.int .i64 o.kind,.int .i64 o.seg,.int .i64 o.at_,.int .i64 o.data,.int .i64 o.ptrs,.int .i64 o.size,.int .i64 o.count]] w (QFPost (foundO (szs a) o) w):=by
 have hga:=(Keep.refl NoB w).alloc (.cells #[.slice A a.length c,.bool false,.slice none 0 0] 186)
 have hgb:=hga.alloc (.cells #[.int .i64 o.kind,.int .i64 o.seg,.int .i64 o.at_,.int .i64 o.data,.int .i64 o.ptrs,.int .i64 o.size,.int .i64 o.count] 257)
 have hgc:=hgb.alloc (.cells #[.int .i64 0,.int .i64 0,.int .i64 0,.int .i64 0,.int .i64 0,.int .i64 0,.int .i64 0] 257)
 have h2:=zU w (.cells #[.slice A a.length c,.bool false,.slice none 0 0] 186) (.cells #[.int .i64 o.kind,.int .i64 o.seg,.int .i64 o.at_,.int .i64 o.data,.int .i64 o.ptrs,.int .i64 o.size,.int .i64 o.count] 257)
 have hsz2:((w.alloc (.cells #[.slice A a.length c,.bool false,.slice none 0 0] 186)).alloc (.cells #[.int .i64 o.kind,.int .i64 o.seg,.int .i64 o.at_,.int .i64 o.data,.int .i64 o.ptrs,.int .i64 o.size,.int .i64 o.count] 257)).heap.size=w.heap.size+2:=by simp
 have hz:=heap_alloc_new ((w.alloc (.cells #[.slice A a.length c,.bool false,.slice none 0 0] 186)).alloc (.cells #[.int .i64 o.kind,.int .i64 o.seg,.int .i64 o.at_,.int .i64 o.data,.int .i64 o.ptrs,.int .i64 o.size,.int .i64 o.count] 257)) (.cells #[.int .i64 0,.int .i64 0,.int .i64 0,.int .i64 0,.int .i64 0,.int .i64 0,.int .i64 0] 257)
 rw [hsz2] at hz
 have HZ:=LH hz
 have hgl:=(Keep.refl NoB ((w.alloc (.cells #[.slice A a.length c,.bool false,.slice none 0 0] 186)).alloc (.cells #[.int .i64 o.kind,.int .i64 o.seg,.int .i64 o.at_,.int .i64 o.data,.int .i64 o.ptrs,.int .i64 o.size,.int .i64 o.count] 257))).alloc (.cells #[.int .i64 0,.int .i64 0,.int .i64 0,.int .i64 0,.int .i64 0,.int .i64 0,.int .i64 0] 257)
 have HS:=LH (Grow.heap hgl h2.1)
 have HO:=LH (Grow.heap hgl h2.2.1)
 have HG:=LH hgc
 have H:=LH (h.grow hgc)
 have HA:=LH ho
 have HK:=LH hk
 obtain ⟨m0,m1,m2,mf⟩:=zI HS.out
 obtain ⟨d0,d1,d2,d3,d4,d5,d6,df⟩:=zC HO.out
 clear h ho hk hga hgb hgc h2 hsz2 hz hgl
 have E0:Hid (foundO (szs a) o=if (ptrWords (obP o)).2=0 then if withinB (szs a) o.seg o.at_ (ptrWords (obP o)).1 then (o,0) else (ob0,20) else (ob0,(ptrWords (obP o)).2)):=LH rfl
 have HQW:=LH (fun w'=>zHD (obP o) w' (zoD HK.out))
 go_enter Tryz.func225,Tryz.ntmps225
 go_wp2_with fail
 refine (HQW.out _).mono ?_
 rintro e w1 ⟨rfl,hg⟩
 replace HZ:=LH (Grow.heap hg HZ.out)
 replace HS:=LH (Grow.heap hg HS.out)
 replace HO:=LH (Grow.heap hg HO.out)
 replace HG:=LH (HG.out.grow hg)
 replace H:=LH (H.out.grow hg)
 clear hg m0 m1 m2 mf d0 d1 d2 d3 d4 d5 d6 df HQW
 generalize ptrWords (obP o)=X at *
 obtain ⟨n,er⟩:=X
 by_cases he:er=0
 case neg =>
  have heb:(er != 0)=true:=by simp [he]
  replace E0:=LH (E0.out.trans (if_neg he))
  clear he
  obtain ⟨y0,y1,y2,y3,y4,y5,y6,yf⟩:=zC HZ.out
  go_wp2
  refine ret7 HG.out (by omega) HZ.out (fun w' z0 z1 z2 z3 z4 z5 z6 zf=>?_) rfl (fun w' hg=>⟨by rw [E0.out];rfl,hg⟩)
  rw [results_cell_tmp rfl];go_simp
 have heb:(er != 0)=false:=by simp [he]
 replace E0:=LH (E0.out.trans (if_pos he))
 clear he
 obtain ⟨m0,m1,m2,mf⟩:=zI HS.out
 obtain ⟨d0,d1,d2,d3,d4,d5,d6,df⟩:=zC HO.out
 go_wp2
 refine zD [0,1,3,4,5,6,7,2,8,9] [2,8] [1,4,6] [] rfl (by kernel_rfl) ?_
 refine ord_p ?_
 refine ord_r (y:=by intro w' hg;have q:=hg.cell m0 (fun h=>h);go_simp;with_reducible rfl) (z:=?_)
 refine ord_p ?_
 refine ord_r (y:=by intro w' hg;have q:=hg.cell d1 (fun h=>h);go_simp;with_reducible rfl) (z:=?_)
 refine ord_p ?_
 refine ord_r (y:=by intro w' hg;have q:=hg.cell d2 (fun h=>h);go_simp;with_reducible rfl) (z:=?_)
 refine ord_p ?_
 refine zG rfl rfl rfl rfl rfl Tryz.func70 rfl rfl [.slice A a.length c] rfl ?_
 refine (zoA a A c _ (H.out.grow (Keep.refl NoB w1).drew) HA.out.segs).mono ?_
 rintro e w2 ⟨A2,c2,rfl,hg,hown⟩
 refine ⟨_,rfl,fun _=>hg,?_⟩
 have hg2:=(Keep.refl NoB w1).drew.grow hg
 have HSR:=LH (SliceR.of_own hown)
 replace HZ:=LH (Grow.heap hg2 HZ.out)
 replace HO:=LH (Grow.heap hg2 HO.out)
 replace HG:=LH (HG.out.grow hg2)
 clear hg hg2 hown m0 m1 m2 mf d0 d1 d2 d3 d4 d5 d6 df
 simp only [Act.put,pB,pC,pD]
 refine zG rfl rfl rfl rfl rfl Tryz.func257 rfl rfl [.slice A2 (szs a).length c2,.int .i64 o.seg,.int .i64 o.at_,.int .i64 n] rfl ?_
 refine (zcC A2 c2 (szs a) w2 HSR.out (zJJ HA.out) o.seg o.at_ n).mono ?_
 rintro e w3 ⟨rfl,rfl⟩
 rcases hb:withinB (szs a) o.seg o.at_ n with _ | _
 ·rw [hb,if_neg (by simp)] at E0
  clear hb
  refine ⟨_,rfl,fun _=>Keep.refl _ _,?_⟩
  simp only [Act.put,pB,pC,pD]
  refine ord_p ?_
  refine zF ?_
  obtain ⟨y0,y1,y2,y3,y4,y5,y6,yf⟩:=zC HZ.out
  go_wp2
  refine ret7 HG.out (by omega) HZ.out (fun w' z0 z1 z2 z3 z4 z5 z6 zf=>?_) rfl (fun w' hg=>⟨by rw [E0.out];rfl,hg⟩)
  rw [results_cell_tmp rfl];go_simp
 ·rw [hb,if_pos rfl] at E0
  clear hb
  refine ⟨_,rfl,fun _=>Keep.refl _ _,?_⟩
  simp only [Act.put,pB,pC,pD]
  refine ord_p ?_
  refine zF ?_
  obtain ⟨d0,d1,d2,d3,d4,d5,d6,df⟩:=zC HO.out
  obtain ⟨y0,y1,y2,y3,y4,y5,y6,yf⟩:=zC HZ.out
  go_wp2
  refine ret7 HG.out (by omega) HZ.out (fun w' z0 z1 z2 z3 z4 z5 z6 zf=>?_) rfl (fun w' hg=>⟨by rw [E0.out],hg⟩)
  rw [results_cell_tmp rfl];go_simp
def twiceO (wd : Int → Int → Int × Int) (p : Pt) : Ob × Int :=
 if (wd p.seg p.off).2 = 0 then
  if (wd p.seg (p.off + 1)).2 = 0 then
   if (ptrDec (wd p.seg p.off).1).2 = 0 then
    if (ptrDec (wd p.seg (p.off+1)).1).2=0 then
     if (ptrDec (wd p.seg p.off).1).1.kind=3∧(ptrDec (wd p.seg p.off).1).1.dbl=false∧isNear (ptrDec (wd p.seg (p.off+1)).1).1=true∧(ptrDec (wd p.seg (p.off+1)).1).1.off=0 then
      (obOf (ptrDec (wd p.seg (p.off+1)).1).1 (ptrDec (wd p.seg p.off).1).1.seg (ptrDec (wd p.seg p.off).1).1.off,0)
     else (ob0,23)
    else (ob0,(ptrDec (wd p.seg (p.off+1)).1).2)
   else (ob0,(ptrDec (wd p.seg p.off).1).2)
  else (ob0,(wd p.seg (p.off+1)).2)
 else (ob0,(wd p.seg p.off).2)
theorem zLJ (sz:List Int) (wd:Int→Int→Int×Int) (p:Pt):twiceP sz wd p=if (twiceO wd p).2=0 then foundO sz (twiceO wd p).1 else (ob0,(twiceO wd p).2):=by
 unfold twiceP twiceO
 by_cases h1:(wd p.seg p.off).2=0
 ·rw [if_pos h1, if_pos h1]
  by_cases h2:(wd p.seg (p.off+1)).2=0
  ·rw [if_pos h2,if_pos h2]
   by_cases h3:(ptrDec (wd p.seg p.off).1).2=0
   ·rw [if_pos h3,if_pos h3]
    by_cases h4:(ptrDec (wd p.seg (p.off+1)).1).2=0
    ·rw [if_pos h4,if_pos h4]
     by_cases h5:(ptrDec (wd p.seg p.off).1).1.kind=3∧(ptrDec (wd p.seg p.off).1).1.dbl=false∧isNear (ptrDec (wd p.seg (p.off+1)).1).1=true∧(ptrDec (wd p.seg (p.off+1)).1).1.off=0
     ·rw [if_pos h5,if_pos h5,if_pos rfl,zKJ]
     ·rw [if_neg h5,if_neg h5,if_neg (by simp)]
    ·rw [if_neg h4,if_neg h4,if_neg (by simpa using h4)]
   ·rw [if_neg h3,if_neg h3,if_neg (by simpa using h3)]
  ·rw [if_neg h2,if_neg h2,if_neg (by simpa using h2)]
 ·rw [if_neg h1,if_neg h1,if_neg (by simpa using h1)]
theorem zFF (a:List (List Int)) (ho:OkA a) (A:Option Addr) (c:Nat) (w:World) (h:RowsR .u64 a (.slice A a.length c) w) (p:Pt) (hp:PtOk p):Calls Tryz.prog 227 #[.agg #[.slice A a.length c,.bool false,.slice none 0 0],.agg #[.int .i64 p.kind,.int .i64 p.off,.int .i64 p.data,.int .i64 p.ptrs,.int .i64 p.size,.int .i64 p.count,.int .i64 p.seg,.bool p.dbl]] w (QFPost (twiceO (wordA a) p) w):=by
 have hga:=(Keep.refl NoB w).alloc (.cells #[.slice A a.length c,.bool false,.slice none 0 0] 186)
 have hgb:=hga.alloc (.cells #[.int .i64 p.kind,.int .i64 p.off,.int .i64 p.data,.int .i64 p.ptrs,.int .i64 p.size,.int .i64 p.count,.int .i64 p.seg,.bool p.dbl] 120)
 have hgc:=hgb.alloc (.cells #[.int .i64 0,.int .i64 0,.int .i64 0,.int .i64 0,.int .i64 0,.int .i64 0,.int .i64 0] 257)
 have h2:=zU w (.cells #[.slice A a.length c,.bool false,.slice none 0 0] 186) (.cells #[.int .i64 p.kind,.int .i64 p.off,.int .i64 p.data,.int .i64 p.ptrs,.int .i64 p.size,.int .i64 p.count,.int .i64 p.seg,.bool p.dbl] 120)
 have hsz2:((w.alloc (.cells #[.slice A a.length c,.bool false,.slice none 0 0] 186)).alloc (.cells #[.int .i64 p.kind,.int .i64 p.off,.int .i64 p.data,.int .i64 p.ptrs,.int .i64 p.size,.int .i64 p.count,.int .i64 p.seg,.bool p.dbl] 120)).heap.size=w.heap.size+2:=by simp
 have hz:=heap_alloc_new ((w.alloc (.cells #[.slice A a.length c,.bool false,.slice none 0 0] 186)).alloc (.cells #[.int .i64 p.kind,.int .i64 p.off,.int .i64 p.data,.int .i64 p.ptrs,.int .i64 p.size,.int .i64 p.count,.int .i64 p.seg,.bool p.dbl] 120)) (.cells #[.int .i64 0,.int .i64 0,.int .i64 0,.int .i64 0,.int .i64 0,.int .i64 0,.int .i64 0] 257)
 rw [hsz2] at hz
 have HZ:=LH hz
 have hgl:=(Keep.refl NoB ((w.alloc (.cells #[.slice A a.length c,.bool false,.slice none 0 0] 186)).alloc (.cells #[.int .i64 p.kind,.int .i64 p.off,.int .i64 p.data,.int .i64 p.ptrs,.int .i64 p.size,.int .i64 p.count,.int .i64 p.seg,.bool p.dbl] 120))).alloc (.cells #[.int .i64 0,.int .i64 0,.int .i64 0,.int .i64 0,.int .i64 0,.int .i64 0,.int .i64 0] 257)
 have HS:=LH (Grow.heap hgl h2.1)
 have HPC:=LH (Grow.heap hgl h2.2.1)
 have HG:=LH hgc
 have H:=LH (h.grow hgc)
 have HA:=LH ho
 have HV:=LH (zu ho).val
 have hpo:=hp.o
 have hwo:IntKind.i64.wrap (p.off+1)=p.off+1:=IntWalk.i64_in _ (by omega)
 have E0 : Hid (twiceO (wordA a) p = if (wordA a p.seg p.off).2 = 0 then
  if (wordA a p.seg (p.off + 1)).2 = 0 then
   if (ptrDec (wordA a p.seg p.off).1).2 = 0 then
    if (ptrDec (wordA a p.seg (p.off+1)).1).2=0 then
     if (ptrDec (wordA a p.seg p.off).1).1.kind=3∧(ptrDec (wordA a p.seg p.off).1).1.dbl=false∧isNear (ptrDec (wordA a p.seg (p.off+1)).1).1=true∧(ptrDec (wordA a p.seg (p.off+1)).1).1.off=0 then
      (obOf (ptrDec (wordA a p.seg (p.off+1)).1).1 (ptrDec (wordA a p.seg p.off).1).1.seg (ptrDec (wordA a p.seg p.off).1).1.off,0)
     else (ob0,23)
    else (ob0,(ptrDec (wordA a p.seg (p.off+1)).1).2)
   else (ob0,(ptrDec (wordA a p.seg p.off).1).2)
  else (ob0,(wordA a p.seg (p.off+1)).2)
 else (ob0,(wordA a p.seg p.off).2)):=LH rfl
 obtain ⟨m0,m1,m2,mf⟩:=zI HS.out
 obtain ⟨c0,c1,c2,c3,c4,c5,c6,c7,cf⟩:=zO HPC.out
 clear h ho hp hga hgb hgc h2 hsz2 hz hgl hpo
 have HW1:=LH (zDB a HA.out A c _ H.out p.seg p.off)
 generalize hX1:wordA a p.seg p.off=X1 at *
 have hv1:=HV.out p.seg p.off
 rw [hX1] at hv1
 clear hX1
 obtain ⟨x1,e1⟩:=X1
 go_enter Tryz.func227,Tryz.ntmps227
 go_wp2_with fail
 refine HW1.out.mono ?_
 rintro e w1 ⟨rfl,hg⟩
 replace HZ:=LH (Grow.heap hg HZ.out)
 replace HS:=LH (Grow.heap hg HS.out)
 replace HPC:=LH (Grow.heap hg HPC.out)
 replace HG:=LH (HG.out.grow hg)
 replace H:=LH (H.out.grow hg)
 clear hg m0 m1 m2 mf c0 c1 c2 c3 c4 c5 c6 c7 cf HW1
 have HV1:=LH hv1
 clear hv1
 by_cases he:e1=0
 case neg =>
  have heb:(e1 != 0)=true:=by simp [he]
  replace E0:=LH (E0.out.trans (if_neg he))
  clear he hwo
  obtain ⟨y0,y1,y2,y3,y4,y5,y6,yf⟩:=zC HZ.out
  go_wp2
  refine ret7 HG.out (by omega) HZ.out (fun w' z0 z1 z2 z3 z4 z5 z6 zf=>?_) rfl (fun w' hg=>⟨by rw [E0.out];rfl,hg⟩)
  rw [results_cell_tmp rfl];go_simp
 have heb:(e1 != 0)=false:=by simp [he]
 replace E0:=LH (E0.out.trans (if_pos he))
 clear he
 obtain ⟨m0,m1,m2,mf⟩:=zI HS.out
 obtain ⟨c0,c1,c2,c3,c4,c5,c6,c7,cf⟩:=zO HPC.out
 have HW2:=LH (zDB a HA.out A c w1 H.out p.seg (p.off+1))
 generalize hX2:wordA a p.seg (p.off+1)=X2 at *
 have hv2:=HV.out p.seg (p.off+1)
 rw [hX2] at hv2
 have HV2:=LH hv2
 clear hX2 hv2
 obtain ⟨x2,e2⟩:=X2
 go_wp2_with fail
 refine HW2.out.mono ?_
 rintro e w2 ⟨rfl,hg⟩
 replace HZ:=LH (Grow.heap hg HZ.out)
 replace HG:=LH (HG.out.grow hg)
 clear hg m0 m1 m2 mf c0 c1 c2 c3 c4 c5 c6 c7 cf HW2 hwo heb
 by_cases he:e2=0
 case neg =>
  have heb:(e2 != 0)=true:=by simp [he]
  replace E0:=LH (E0.out.trans (if_neg he))
  clear he
  obtain ⟨y0,y1,y2,y3,y4,y5,y6,yf⟩:=zC HZ.out
  go_wp2
  refine ret7 HG.out (by omega) HZ.out (fun w' z0 z1 z2 z3 z4 z5 z6 zf=>?_) rfl (fun w' hg=>⟨by rw [E0.out];rfl,hg⟩)
  rw [results_cell_tmp rfl];go_simp
 have heb:(e2 != 0)=false:=by simp [he]
 replace E0:=LH (E0.out.trans (if_pos he))
 clear he
 go_wp2_with fail
 refine (zXA x1 _ HV1.out.1 HV1.out.2).mono ?_
 rintro e w3 ⟨rfl,hg⟩
 generalize ptrDec x1=Q at *
 have hgq:=(Keep.refl NoB w3).alloc (.cells #[.int .i64 Q.1.kind,.int .i64 Q.1.off,.int .i64 Q.1.data,.int .i64 Q.1.ptrs,.int .i64 Q.1.size,.int .i64 Q.1.count,.int .i64 Q.1.seg,.bool Q.1.dbl] 120)
 have HQC:=LH (heap_alloc_new w3 (.cells #[.int .i64 Q.1.kind,.int .i64 Q.1.off,.int .i64 Q.1.data,.int .i64 Q.1.ptrs,.int .i64 Q.1.size,.int .i64 Q.1.count,.int .i64 Q.1.seg,.bool Q.1.dbl] 120))
 have HB3:Hid (w.heap.size+2<w3.heap.size):=LH (by have h1:=(gE (Grow.heap hg HZ.out)).1;omega)
 replace HZ:=LH (Grow.heap (hg.grow hgq) HZ.out)
 replace HG:=LH (HG.out.grow (hg.grow hgq))
 clear hg hgq heb
 by_cases he:Q.2=0
 case neg =>
  have heb:(Q.2 != 0)=true:=by simp [he]
  replace E0:=LH (E0.out.trans (if_neg he))
  clear he
  obtain ⟨y0,y1,y2,y3,y4,y5,y6,yf⟩:=zC HZ.out
  go_wp2
  refine ret7 HG.out (by omega) HZ.out (fun w' z0 z1 z2 z3 z4 z5 z6 zf=>?_) rfl (fun w' hg=>⟨by rw [E0.out];rfl,hg⟩)
  rw [results_cell_tmp rfl];go_simp
 have heb:(Q.2 != 0)=false:=by simp [he]
 replace E0:=LH (E0.out.trans (if_pos he))
 clear he
 go_wp2_with fail
 refine (zXA x2 _ HV2.out.1 HV2.out.2).mono ?_
 rintro e w4 ⟨rfl,hg⟩
 generalize ptrDec x2=R at *
 have hgr:=(Keep.refl NoB w4).alloc (.cells #[.int .i64 R.1.kind,.int .i64 R.1.off,.int .i64 R.1.data,.int .i64 R.1.ptrs,.int .i64 R.1.size,.int .i64 R.1.count,.int .i64 R.1.seg,.bool R.1.dbl] 120)
 have HRC:=LH (heap_alloc_new w4 (.cells #[.int .i64 R.1.kind,.int .i64 R.1.off,.int .i64 R.1.data,.int .i64 R.1.ptrs,.int .i64 R.1.size,.int .i64 R.1.count,.int .i64 R.1.seg,.bool R.1.dbl] 120))
 replace HQC:=LH (Grow.heap (hg.grow hgr) HQC.out)
 replace HZ:=LH (Grow.heap (hg.grow hgr) HZ.out)
 replace HG:=LH (HG.out.grow (hg.grow hgr))
 have HB4:Hid (w.heap.size+2<w4.heap.size∧w3.heap.size<w4.heap.size):=LH (by have h1:=hg.size;simp at h1;have:=HB3.out;omega)
 clear hg hgr heb
 by_cases he:R.2=0
 case neg =>
  have heb:(R.2 != 0)=true:=by simp [he]
  replace E0:=LH (E0.out.trans (if_neg he))
  clear he
  obtain ⟨y0,y1,y2,y3,y4,y5,y6,yf⟩:=zC HZ.out
  go_wp2
  refine ret7 HG.out (by omega) HZ.out (fun w' z0 z1 z2 z3 z4 z5 z6 zf=>?_) rfl (fun w' hg=>⟨by rw [E0.out];rfl,hg⟩)
  rw [results_cell_tmp rfl];go_simp
 have heb:(R.2 != 0)=false:=by simp [he]
 replace E0:=LH (E0.out.trans (if_pos he))
 clear he
 obtain ⟨q0,q1,q2,q3,q4,q5,q6,q7,qf⟩:=zO HQC.out
 obtain ⟨r0,r1,r2,r3,r4,r5,r6,r7,rf⟩:=zO HRC.out
 by_cases k3:Q.1.kind=3
 case neg =>
  have k3b:(Q.1.kind != 3)=true:=by simp [k3]
  replace E0:=LH (E0.out.trans (if_neg (fun h=>k3 h.1)))
  clear k3
  obtain ⟨y0,y1,y2,y3,y4,y5,y6,yf⟩:=zC HZ.out
  go_wp2
  refine ret7 HG.out (by omega) HZ.out (fun w' z0 z1 z2 z3 z4 z5 z6 zf=>?_) rfl (fun w' hg=>⟨by rw [E0.out];rfl,hg⟩)
  rw [results_cell_tmp rfl];go_simp
 have k3b:(Q.1.kind != 3)=false:=by simp [k3]
 by_cases hdb:Q.1.dbl=true
 case pos =>
  replace E0:=LH (E0.out.trans (if_neg (fun h=>by rw [hdb] at h;cases h.2.1)))
  clear k3
  rw [hdb] at q7
  obtain ⟨y0,y1,y2,y3,y4,y5,y6,yf⟩:=zC HZ.out
  go_wp2
  refine ret7 HG.out (by omega) HZ.out (fun w' z0 z1 z2 z3 z4 z5 z6 zf=>?_) rfl (fun w' hg=>⟨by rw [E0.out];rfl,hg⟩)
  rw [results_cell_tmp rfl];go_simp
 have hdb2:Q.1.dbl=false:=by simpa using hdb
 rw [hdb2] at q7
 go_wp2_with fail
 refine (show Calls Tryz.prog 224 #[.agg #[.int .i64 R.1.kind,.int .i64 R.1.off,.int .i64 R.1.data,.int .i64 R.1.ptrs,.int .i64 R.1.size,.int .i64 R.1.count,.int .i64 R.1.seg,.bool R.1.dbl]] (w4.alloc (.cells #[.int .i64 R.1.kind,.int .i64 R.1.off,.int .i64 R.1.data,.int .i64 R.1.ptrs,.int .i64 R.1.size,.int .i64 R.1.count,.int .i64 R.1.seg,.bool R.1.dbl] 120)) (fun e w'=>e=.returned (.bool (isNear R.1))∧Grow (w4.alloc (.cells #[.int .i64 R.1.kind,.int .i64 R.1.off,.int .i64 R.1.data,.int .i64 R.1.ptrs,.int .i64 R.1.size,.int .i64 R.1.count,.int .i64 R.1.seg,.bool R.1.dbl] 120)) w') from zGC R.1 _).mono ?_
 rintro e w6 ⟨rfl,hg⟩
 replace HZ:=LH (Grow.heap hg HZ.out)
 replace HG:=LH (HG.out.grow hg)
 replace HQC:=LH (Grow.heap hg HQC.out)
 replace HRC:=LH (Grow.heap hg HRC.out)
 clear hg q0 q1 q2 q3 q4 q5 q6 q7 qf r0 r1 r2 r3 r4 r5 r6 r7 rf hdb heb
 obtain ⟨q0,q1,q2,q3,q4,q5,q6,q7,qf⟩:=zO HQC.out
 obtain ⟨r0,r1,r2,r3,r4,r5,r6,r7,rf⟩:=zO HRC.out
 rcases hnr:isNear R.1 with _ | _
 ·replace E0:=LH (E0.out.trans (if_neg (fun h=>by rw [hnr] at h;cases h.2.2.1)))
  clear k3 hnr hdb2
  obtain ⟨y0,y1,y2,y3,y4,y5,y6,yf⟩:=zC HZ.out
  go_wp2
  refine ret7 HG.out (by omega) HZ.out (fun w' z0 z1 z2 z3 z4 z5 z6 zf=>?_) rfl (fun w' hg=>⟨by rw [E0.out];rfl,hg⟩)
  rw [results_cell_tmp rfl];go_simp
 ·by_cases hof:R.1.off=0
  case neg =>
   have hofb:(R.1.off != 0)=true:=by simp [hof]
   replace E0:=LH (E0.out.trans (if_neg (fun h=>hof h.2.2.2)))
   clear k3 hnr hdb2 hof
   obtain ⟨y0,y1,y2,y3,y4,y5,y6,yf⟩:=zC HZ.out
   go_wp2
   refine ret7 HG.out (by omega) HZ.out (fun w' z0 z1 z2 z3 z4 z5 z6 zf=>?_) rfl (fun w' hg=>⟨by rw [E0.out];rfl,hg⟩)
   rw [results_cell_tmp rfl];go_simp
  have hofb:(R.1.off != 0)=false:=by simp [hof]
  replace E0:=LH (E0.out.trans (if_pos ⟨k3,hdb2,hnr,hof⟩))
  clear k3 hnr hdb2 hof
  go_wp2_with fail
  refine (show Calls Tryz.prog 226 #[.agg #[.int .i64 R.1.kind,.int .i64 R.1.off,.int .i64 R.1.data,.int .i64 R.1.ptrs,.int .i64 R.1.size,.int .i64 R.1.count,.int .i64 R.1.seg,.bool R.1.dbl],.int .i64 Q.1.seg,.int .i64 Q.1.off] w6 (QObPost (obOf R.1 Q.1.seg Q.1.off) w6) from zQB R.1 Q.1.seg Q.1.off w6).mono ?_
  rintro e w7 ⟨rfl,hg⟩
  replace HZ:=LH (Grow.heap hg HZ.out)
  replace HG:=LH (HG.out.grow hg)
  clear hg q0 q1 q2 q3 q4 q5 q6 q7 qf r0 r1 r2 r3 r4 r5 r6 r7 rf
  generalize obOf R.1 Q.1.seg Q.1.off=ob at *
  obtain ⟨y0,y1,y2,y3,y4,y5,y6,yf⟩:=zC HZ.out
  go_wp2
  refine ret7 HG.out (by omega) HZ.out (fun w' z0 z1 z2 z3 z4 z5 z6 zf=>?_) rfl (fun w' hg=>⟨by rw [E0.out],hg⟩)
  rw [results_cell_tmp rfl];go_simp
end Go.Proofs.YtfkcpaahdlkcdaaGreat

import Derived.Test.YtfkcpaahdlkcdaaGreatRRecvReads26
set_option linter.unusedSimpArgs false
set_option linter.unusedVariables false
set_option maxRecDepth 100000
set_option maxHeartbeats 16000000
namespace Go.Proofs.YtfkcpaahdlkcdaaGreat
open Go.RowKit
def offN (sz:List Int) (k:Nat):Nat:=((sz.take k).sum).toNat
def rowAt (ws sz:List Int) (k:Nat):List Int:=(ws.drop (offN sz k)).take (sz.getD k 0).toNat
def arenaW (ws sz:List Int):List (List Int):=(List.range sz.length).map (rowAt ws sz)
theorem zXA (ws sz:List Int):(arenaW ws sz).length=sz.length:=by simp [arenaW]
theorem zgD (ws sz:List Int) (k:Nat) (hk:k<sz.length):(arenaW ws sz).take (k+1)=(arenaW ws sz).take k++[rowAt ws sz k]:=by
 rw [List.take_succ_eq_append_getElem (by rw [zXA];exact hk)]
 congr 1
 simp [arenaW]
theorem zGD {sz:List Int} (hnn:∀ x∈sz,0≤x) (k:Nat) (hk:k<sz.length):offN sz (k+1)=offN sz k+(sz[k]).toNat:=by
 unfold offN
 rw [zw hk]
 have h1:=hnn _ (List.getElem_mem hk)
 have h2:0≤(sz.take k).sum:=zbA (fun x hx=>hnn x (List.mem_of_mem_take hx))
 omega
theorem znH {sz:List Int} (hnn:∀ x∈sz,0≤x) (k:Nat):offN sz k≤sz.sum.toNat:=by
 unfold offN
 have:=zl hnn k
 omega
theorem zHD {ws sz:List Int} (hnn:∀ x∈sz,0≤x) (hl:(ws.length:Int)=sz.sum) (k:Nat) (hk:k<sz.length):(rowAt ws sz k).length=(sz[k]).toNat:=by
 unfold rowAt
 have h1:=zGD hnn k hk
 have h2:=znH hnn (k+1)
 have e:sz.getD k 0=sz[k]:=by simp [List.getD_eq_getElem?_getD,hk]
 rw [List.length_take,List.length_drop,e]
 omega
def HdS (a:List (List Int)) (vs:List Value) (w:World):Prop:=vs.length=a.length∧∀ i (h:i<a.length),∃ A c,vs[i]? = some (.slice A a[i].length c)∧SliceR 1 (.slice A a[i].length c) a[i].length (u64s a[i]) w
theorem HdS.grow {a:List (List Int)} {vs:List Value} {w w':World} (h:HdS a vs w) (hg:Grow w w'):HdS a vs w':=⟨h.1,fun i hi=>by
 obtain ⟨A,c,h1,h2⟩:=h.2 i hi
 exact ⟨A,c,h1,h2.grow hg⟩⟩
theorem RowsR.of_slice {a:List (List Int)} {vs:List Value} {A:Option Addr} {c:Nat} {w:World} (ho:SliceR 1 (.slice A a.length c) a.length vs w) (h:HdS a vs w):RowsR .u64 a (.slice A a.length c) w:=by
 obtain ⟨A9,c9,e9,_,_,_,hcs⟩:=ho
 injection e9 with e9
 refine ⟨A,c,rfl,fun i hi=>?_⟩
 obtain ⟨A',c',h1,h2⟩:=h.2 i hi
 obtain ⟨ad,had,hc⟩:=hcs i _ h1
 exact ⟨ad,A',c',e9.trans had,hc,h2⟩
theorem HdS.snoc {a:List (List Int)} {vs:List Value} {w:World} {r:List Int} {A:Option Addr} {c:Nat} (h:HdS a vs w) (hr:SliceR 1 (.slice A r.length c) r.length (u64s r) w):HdS (a++[r]) (vs++[.slice A r.length c]) w:=by
 refine ⟨by simp [h.1],fun i hi=>?_⟩
 by_cases hl:i<a.length
 ·obtain ⟨A',c',h1,h2⟩:=h.2 i hl
  refine ⟨A',c',?_,?_⟩
  ·rw [List.getElem?_append_left (by rw [h.1];exact hl),List.getElem_append_left hl];exact h1
  ·rw [List.getElem_append_left hl];exact h2
 ·have hi2:i=a.length:=by simp at hi;omega
  subst hi2
  refine ⟨A,c,?_,?_⟩
  ·rw [List.getElem?_append_right (by rw [h.1];omega)];simp [h.1]
  ·simpa using hr
theorem zsL {w:World} {cb:Nat} {ws:List Int} (hc:∀ (j:Nat) u,(u64s ws)[j]? = some u→w.cell? ⟨cb,j,none⟩=some u) (o off n:Nat) (ho:o=off∨n=0) (hn:off+n≤ws.length):SliceR 1 (.slice (some ⟨cb,o,none⟩) n n) n (u64s ((ws.drop off).take n)) w:=by
 refine ⟨_,_,rfl,Nat.le_refl _,by simp [u64s];omega,(fun e=>by cases e),fun j u hu=>?_⟩
 have hj:j<n:=by
  have:=(List.getElem?_eq_some_iff.1 hu).1
  simp [u64s] at this
  omega
 rcases ho with rfl | rfl
 ·refine ⟨_,rfl,?_⟩
  have e:(⟨cb,o,none⟩:Addr).add j=⟨cb,o+j,none⟩:=by
   unfold Addr.add
   split
   ·rename_i h;rw [h];rfl
   ·rfl
  rw [e]
  refine hc (o+j) u ?_
  rw [← hu]
  simp [u64s,List.getElem?_take,hj]
 ·omega
theorem zkJ {b:Nat} {p:PP} {d:Par} {G:Nat→Prop} {w:World} (h:PAt b p d G w) (hno:popB d.known<chunksN d.sz) :
    Calls Tryz.prog 115 #[.pointer (some ⟨b,0,none⟩)] w fun e w'=>e=.returned (.tuple #[qI,qL])∧Grow w w':=by
 have hlt:((popB d.known:Nat):Int)<(chunksN d.sz:Nat):=by omega
 have hkl:d.known.length≤100000:=by have:=zM h.ok.fit;rw [h.ok.klen];unfold chunksN;omega
 obtain ⟨c0,c1,c2,c3,c4,c5,cf⟩:=zQA h.cell
 have HP:=LH h
 clear h hno
 go_enter Tryz.func115,Tryz.ntmps115
 go_wp2
 refine zE [0,1,2,3,4,5,6,7,9,10,11,12,8,13,14,15] [8,13] [7,12] [] rfl (by kernel_rfl) ?_
 iterate 3
  refine ord_p ?_
 iterate 4
  refine zT ?_
 refine oc1G c5 ?_
 iterate 3
  refine zT ?_
 refine oc3G c0 c1 c2 ?_
 have hcn:=zoB p.Ak p.ck d.known HP.out.ok.known hkl w.drew (HP.out.grow (Keep.refl NoB w).drew).ro.now.2
 refine zBA rfl rfl rfl rfl rfl Tryz.func116 rfl rfl [.slice p.Ak d.known.length p.ck] rfl ?_
 refine hcn.mono ?_
 rintro e w1 ⟨rfl,rfl⟩
 refine ⟨_,rfl,fun _=>Keep.refl _ _,?_⟩
 simp only [Act.put,pB,pC,pD]
 have hcc:=zg d.session d.sum p.As p.cs d.sz w.drew (HP.out.grow (Keep.refl NoB w).drew).ro.now.1 HP.out.ok.fit
 refine zBA rfl rfl rfl rfl rfl Tryz.func64 rfl rfl [.agg #[.int .u64 d.session,.slice p.As d.sz.length p.cs,.int .u32 (d.sum:Nat)]] rfl ?_
 refine hcc.mono ?_
 rintro e w2 ⟨rfl,hg2⟩
 refine ⟨_,rfl,fun _=>hg2,?_⟩
 simp only [Act.put,pB,pC,pD]
 refine zT ?_
 refine ord_p ?_
 refine zD ?_
 go_wp2
 go_ret2
 exact ⟨rfl,(Keep.refl NoB w).drew.grow hg2⟩
theorem PAt.cells {b:Nat} {As Ak:Option Addr} {cs wb cw ck:Nat} {d:Par} {G:Nat→Prop} {w:World} (h:PAt b ⟨As,cs,wb,cw,Ak,ck⟩ d G w):w.cell? ⟨b,0,none⟩=some (.int .u64 d.session)∧w.cell? ⟨b,1,none⟩=some (.slice As d.sz.length cs)∧w.cell? ⟨b,2,none⟩=some (.int .u32 (d.sum:Nat))∧w.cell? ⟨b,3,none⟩=some (.slice As d.sz.length cs)∧w.cell? ⟨b,4,none⟩=some (.slice (some ⟨wb,0,none⟩) d.words.length cw)∧w.cell? ⟨b,5,none⟩=some (.slice Ak d.known.length ck)∧∀ o,w.frozen? ⟨b,o,none⟩=false:=zQA h.cell
theorem PAt.lt' {b:Nat} {As Ak:Option Addr} {cs wb cw ck:Nat} {d:Par} {G:Nat→Prop} {w:World} (h:PAt b ⟨As,cs,wb,cw,Ak,ck⟩ d G w):b<w.heap.size∧wb<w.heap.size:=h.lt
theorem zID {b:Nat} {p:PP} {d:Par} {G:Nat→Prop} {w:World} (h:PAt b p d G w) (hall:chunksN d.sz≤popB d.known) :
    Calls Tryz.prog 115 #[.pointer (some ⟨b,0,none⟩)] w fun e w'=>∃ A c F,e=.returned (.tuple #[.slice A (arenaW d.words d.sz).length c,.bool true])∧Grow w w'∧Foot (RowsR .u64 (arenaW d.words d.sz) (.slice A (arenaW d.words d.sz).length c)) w' F∧∀ k,F k→w.heap.size≤k:=by
 have hlt:¬ (((popB d.known:Nat):Int)<(chunksN d.sz:Nat)):=by omega
 have hkl:d.known.length≤100000:=by have:=zM h.ok.fit;rw [h.ok.klen];unfold chunksN;omega
 obtain ⟨As,cs,wb,cw,Ak,ck⟩:=p
 obtain ⟨c0,c1,c2,c3,c4,c5,cf⟩:=h.cells
 have HP:=LH h
 clear h hall
 go_enter Tryz.func115,Tryz.ntmps115
 go_wp2
 refine zE [0,1,2,3,4,5,6,7,9,10,11,12,8,13,14,15] [8,13] [7,12] [] rfl (by kernel_rfl) ?_
 iterate 3
  refine ord_p ?_
 iterate 4
  refine zT ?_
 refine oc1G c5 ?_
 iterate 3
  refine zT ?_
 refine oc3G c0 c1 c2 ?_
 have hcn:=zoB Ak ck d.known HP.out.ok.known hkl w.drew (HP.out.grow (Keep.refl NoB w).drew).ro.now.2
 refine zBA rfl rfl rfl rfl rfl Tryz.func116 rfl rfl [.slice Ak d.known.length ck] rfl ?_
 refine hcn.mono ?_
 rintro e w1 ⟨rfl,rfl⟩
 refine ⟨_,rfl,fun _=>Keep.refl _ _,?_⟩
 simp only [Act.put,pB,pC,pD]
 have hcc:=zg d.session d.sum As cs d.sz w.drew (HP.out.grow (Keep.refl NoB w).drew).ro.now.1 HP.out.ok.fit
 refine zBA rfl rfl rfl rfl rfl Tryz.func64 rfl rfl [.agg #[.int .u64 d.session,.slice As d.sz.length cs,.int .u32 (d.sum:Nat)]] rfl ?_
 refine hcc.mono ?_
 rintro e w2 ⟨rfl,hg2⟩
 refine ⟨_,rfl,fun _=>hg2,?_⟩
 simp only [Act.put,pB,pC,pD]
 refine zT ?_
 refine ord_p ?_
 refine zD ?_
 have hg:=(Keep.refl NoB w).drew.grow hg2
 have HG:=LH hg
 replace HP:=LH (HP.out.grow hg)
 have hfp:=zM HP.out.ok.fit
 have hn9:d.words.length≤4096:=by have:=HP.out.ok.wlen;omega
 have hsz9:d.sz.length≤16:=hfp.2.1
 have HNN:=LH hfp.2.2.1
 clear hg hg2 hcn hcc hkl c0 c1 c2 c3 c4 c5 cf hfp
 obtain ⟨c0,c1,c2,c3,c4,c5,cf⟩:=HP.out.cells
 go_wp2_with fail
 refine (zLF (.slice (some ⟨wb,0,none⟩) d.words.length cw) d.words w2 (SliceR.of_own HP.out.row) (by omega)).mono ?_
 rintro e w3 ⟨A3,C3,rfl,ho3,hg3⟩
 have hN1:1≤d.words.length:=by
  have h1:=HP.out.ok.wlen
  have h2:=HP.out.ok.fit
  unfold fitsB at h2
  simp only [decide_eq_true_eq] at h2
  have h3:=zl HNN.out 1
  have h4:=h2.2.2.1
  cases hz:d.sz with
  | nil=>rw [hz] at h2;simp at h2
  | cons x r=>rw [hz] at h3 h4 h1;simp at h3 h4 h1;omega
 obtain ⟨A',C',e',hnc,hA',hA0⟩:=zK ho3
 injection e' with e1 e2 e3
 subst e1;subst e3
 obtain ⟨cb,rfl⟩:∃ cb,A3=some ⟨cb,0,none⟩:=by
  cases A3 with
  | none=>have:=hA0 rfl;omega
  | some ad=>exact ⟨ad.block,by have:=hA' ad.block rfl;exact this⟩
 have hcb:=ho3.lt cb rfl
 have HNC:Hid (d.words.length≤C3):=LH hnc
 have HCB:Hid (w2.heap.size≤cb∧cb<w3.heap.size):=LH hcb
 have HCL:Hid (Foot (fun u=>∀ (j:Nat) v,(u64s d.words)[j]? = some v→u.cell? ⟨cb,j,none⟩=some v) w3 (fun k=>k=cb)):=LH ((Foot.of_own ho3).imp (fun u hu j v hv=>by
  obtain ⟨A9,c9,e9,_,_,_,hq⟩:=hu
  injection e9 with e9
  subst e9
  obtain ⟨ad,had,hcell⟩:=hq j v hv
  injection had with had
  subst had
  rw [zyC] at hcell
  exact hcell) |>.mono (fun k hk=>by rw [hk];exact hcb.2) (fun k hk=>by cases hk;rfl))
 have HZ:Hid (w.heap.size≤w2.heap.size):=LH HG.out.size
 replace HG:=LH (HG.out.grow hg3)
 replace HP:=LH (HP.out.grow hg3)
 clear hlt ho3 hg3 hnc hA' hA0 hcb c0 c1 c2 c3 c4 c5 cf
 obtain ⟨c0,c1,c2,c3,c4,c5,cf⟩:=HP.out.cells
 go_wp2_with fail
 clear c0 c1 c2 c3 c4 c5 cf
 have HO0:Hid (w3.ownsRow w3.heap.size 111 1 (.slice none 0 0) 0 []∧Foot (HdS ((arenaW d.words d.sz).take 0) []) w3 (fun j=>j=cb)):=LH ⟨World.ownsRow_nil _ _ _ _,⟨fun k hk=>by rw [hk];exact HCB.out.2,fun u _=>⟨rfl,fun i hi=>by simp at hi⟩⟩⟩
 go_loopw [4,5,7,36] (fun v4 v5 v7 v wr=>∃ (k o m cr:Nat) (A4:Option Addr) (c4:Nat) (vs:List Value),k≤d.sz.length∧v=.int .i64 k∧v4=.slice A4 k c4∧v5=.slice (some ⟨cb,o,none⟩) m cr∧m+offN d.sz k=d.words.length∧m≤cr∧(o=offN d.sz k∨cr=0)∧Hid (PAt b ⟨As,cs,wb,cw,Ak,ck⟩ d G wr∧Grow w wr∧w3.heap.size≤wr.heap.size∧Foot (fun u=>∀ (j:Nat) v,(u64s d.words)[j]? = some v→u.cell? ⟨cb,j,none⟩=some v) wr (fun k=>k=cb)∧wr.ownsRow w3.heap.size 111 1 (.slice A4 k c4) k vs∧Foot (HdS ((arenaW d.words d.sz).take k) vs) wr (fun j=>j=cb))) (fun _ _ _ v _=>d.sz.length-(intOf v).toNat)
 case atStart=>exact ⟨0,0,d.words.length,C3,none,0,[],by omega,rfl,rfl,rfl,by simp [offN],HNC.out,.inl (by simp [offN]),LH ⟨HP.out,HG.out,Nat.le_refl _,HCL.out,HO0.out.1,HO0.out.2⟩⟩
 case round =>
  clear HO0
  obtain ⟨k,o,m,cr,A4,c4,vs,hk,rfl,rfl,rfl,hm,hmc,ho,HR⟩:=hrel
  have HOO:=LH ho
  clear ho
  by_cases hlt:k<d.sz.length
  ·have hlt':(k:Int)<d.sz.length:=by omega
   have hw:IntKind.i64.wrap ((k:Int)+1)=(k:Int)+1:=IntWalk.i64_in _ (by omega)
   obtain ⟨ad,rfl,q1⟩:=SliceR.int_at (k:=.i64) (show SliceR 1 (.slice As d.sz.length cs) d.sz.length (ints d.sz) wr from HR.out.1.ro.now.1) k hlt
   have hx0:=HNN.out _ (List.getElem_mem hlt)
   obtain ⟨nn,hnn⟩:∃ nn:Nat,d.sz[k]=nn:=⟨d.sz[k].toNat,by omega⟩
   have hof:=zGD HNN.out k hlt
   have hofl:=znH HNN.out (k+1)
   rw [hnn] at hof q1
   have hwl:=HP.out.ok.wlen
   have hnm:nn≤m:=by omega
   have hin:0≤(nn:Int)∧(nn:Int)≤cr:=by omega
   have hin2:0≤(nn:Int)∧(nn:Int)≤m:=by omega
   have hrl:=zHD HNN.out HP.out.ok.wlen k hlt
   rw [hnn] at hrl
   have HOF:=LH hof
   have HRL:Hid ((rowAt d.words d.sz k).length=nn):=LH (by omega)
   have HM:=LH hm
   clear hof hofl hwl hrl hx0 hm
   go_wp2_with (at_builtin;refine zL _ rfl _ _ 29 29 rfl w3.heap.size 111 (.slice none 0 0) 1 24 zBB zRB rfl (.slice A4 k c4) k vs rfl (.slice (some ⟨wr.heap.size,0,none⟩) 1 1) 1 [.slice (some ⟨cb,o,none⟩) nn nn] rfl ?_ (by exact zF HR.out.2.2.2.2.1 ((Keep.refl NoB wr).alloc _) (fun _ _ h=>h)) (by exact Src.ofSlice _ zBB ⟨wr.heap.size,0,none⟩ 1 1 _ rfl (World.news_of_block (cs:=#[.slice (some ⟨cb,o,none⟩) nn nn]) (t:=111) (fr:=(0,0)) (heap_alloc_new wr _)) (by simp [Value.oneCell'])) (by simp only [maxLen];omega) (by omega) (by have:=HR.out.2.2.1;simp;omega);intro v7 w7 hap;refine Hid.out ?_)
   refine LH ?_
   have hk7:Keep (fun j=>(Value.slice A4 k c4).ownBlock=some j) wr w7:=((Keep.refl (fun j=>(Value.slice A4 k c4).ownBlock=some j) wr).alloc _).grown hap.grew (fun j hj=>.inl hj)
   have hge:∀ j,(Value.slice A4 k c4).ownBlock=some j→w3.heap.size≤j:=fun j hj=>(HR.out.2.2.2.2.1.lt j hj).1
   have hpl:=HP.out.lt'
   have hP7:=HR.out.1.keep hk7 (fun e=>by have:=hge b e;omega) (fun e=>by have:=hge wb e;omega) (fun j hj e=>by have:=hge j e;have:=HP.out.ro.lt hj;omega)
   have hG7:Grow w w7:=HR.out.2.1.trans hk7 (fun j hj=>.inr (by have:=hge j hj;have:=HG.out.size;omega))
   have hC7:=HR.out.2.2.2.1.keep hk7 (fun j hj e=>by have:=hge j e;have e2:j=cb:=hj;have:=HCB.out.2;omega)
   have hd7:=HR.out.2.2.2.2.2.keep hk7 (fun j hj e=>by have:=hge j e;have e2:j=cb:=hj;have:=HCB.out.2;omega)
   have hgd:(d.sz.getD k 0).toNat=nn:=by rw [List.getD_eq_getElem?_getD,List.getElem?_eq_getElem hlt,Option.getD_some,hnn];rfl
   have hsn:Foot (HdS ((arenaW d.words d.sz).take (k+1)) (vs++[.slice (some ⟨cb,o,none⟩) nn nn])) w7 (fun j=>j=cb):=((hd7.and hC7).imp (fun u hu=>by
    rw [zgD d.words d.sz k hlt]
    have hs:=zsL hu.2 o (offN d.sz k) nn (by rcases HOO.out with e | e;exact .inl e;exact .inr (by omega)) (by have:=HM.out;omega)
    have h9:=hu.1.snoc (r:=rowAt d.words d.sz k) (A:=some ⟨cb,o,none⟩) (c:=nn) (by rw [HRL.out];unfold rowAt;rw [hgd];exact hs)
    rw [HRL.out] at h9
    exact h9)).mono (fun j hj=>by have e2:j=cb:=hj;have:=HCB.out.2;have:=hk7.size;have:=HR.out.2.2.1;omega) (fun j hj=>hj.elim id id)
   have hs7:=hk7.size
   obtain ⟨A7,c7,rfl,_⟩:=zK hap.own
   have HN:=LH (And.intro hP7 (And.intro hG7 (And.intro (Nat.le_trans HR.out.2.2.1 hs7) (And.intro hC7 (And.intro hap.own hsn)))))
   clear hk7 hge hpl hP7 hG7 hC7 hd7 hgd hsn hap hs7
   by_cases hcn:cr=nn
   ·go_wp2
    go_roundw
    case rel=>exact ⟨k+1,o,m-nn,0,A7,c7,_,by omega,by go_num,rfl,rfl,by have:=HM.out;have:=HOF.out;omega,by omega,.inr rfl,HN⟩
    case measure=>simp [intOf];omega
   ·have hcn2:¬ (nn=cr):=fun e=>hcn e.symm
    go_wp2
    go_roundw
    case rel=>exact ⟨k+1,o+nn,m-nn,cr-nn,A7,c7,_,by omega,by go_num,rfl,rfl,by have:=HM.out;have:=HOF.out;omega,by omega,.inl (by have:=HOF.out;rcases HOO.out with e | e <;> omega),HN⟩
    case measure=>simp [intOf];omega
  ·obtain rfl:k=d.sz.length:=by omega
   have hlt':¬ ((d.sz.length:Int)<d.sz.length):=by omega
   go_wp2
   go_ret2
   have hl:=zXA d.words d.sz
   have ho9:=HR.out.2.2.2.2.1
   have hd9:=HR.out.2.2.2.2.2
   rw [List.take_of_length_le (by rw [hl];omega)] at hd9
   rw [← hl] at ho9
   refine ⟨A4,c4,by rw [hl];rfl,HR.out.2.1,fun j=>(Value.slice A4 (arenaW d.words d.sz).length c4).ownBlock=some j∨j=cb,?_,?_⟩
   ·exact ((Foot.of_own ho9).and hd9).imp (fun u hu=>RowsR.of_slice hu.1 hu.2)
   ·rintro j (e | e)
    ·have:=(ho9.lt j e).1;have:=HG.out.size;omega
    ·have:=HCB.out.1;have:=HZ.out;omega
theorem zeE {l:List Int} (h:fitsB l=true):∀ x∈l,0≤x∧x≤4096:=fun x hx=>by
 obtain ⟨_,_,h3,h4⟩:=zM h
 have:=zGB h3 x hx
 exact ⟨h3 x hx,by omega⟩
theorem ztL (a b m:Int) (w:World) (h0:a<0):Calls Tryz.prog 246 #[.int .i64 a,.int .i64 b,.int .i64 m] w fun e w'=>e=.returned (.tuple #[qJ,qL])∧w=w':=by
 go_enter Tryz.func246,Tryz.ntmps246
 rcases Int.lt_trichotomy a b with hl | rfl | hl
 all_goals
  go_wp2
  go_ret2
  exact ⟨rfl,rfl⟩
theorem zVI (A:Option Addr) (c:Nat) (l:List Int) (w:World) (h:SliceR 1 (.slice A l.length c) l.length (ints l) w) (hb:∀ x∈l,0≤x∧x≤100000) (seg at_ n:Int) :
    Calls Tryz.prog 275 #[.slice A l.length c,.int .i64 seg,.int .i64 at_,.int .i64 n] w fun e w'=>e=.returned (.bool (withinB l seg at_ n))∧w=w':=by
 by_cases hat : -9223372036854775808≤at_
 ·exact zlC A c l w h hb seg at_ n hat
 by_cases hs:0≤seg∧seg<l.length
 ·obtain ⟨k,rfl⟩:∃ k:Nat,seg=k:=⟨seg.toNat,by omega⟩
  obtain ⟨ad,rfl,q0⟩:=SliceR.int_at (k:=.i64) h k (by omega)
  have hk':(k:Int)<l.length:=hs.2
  have hk0:¬ (k:Int)<0:=by omega
  have ha:at_<0:=by omega
  have HF:Hid (withinB l k at_ n=false):=decide_eq_false (fun ⟨_,_,g,_⟩=>by omega)
  generalize l[k]=lk at q0
  clear h hb hat hs
  go_enter Tryz.func275,Tryz.ntmps275
  go_wp2_with fail
  refine (ztL at_ n lk w ha).mono ?_
  rintro e w' ⟨rfl,rfl⟩
  go_wp2
  go_ret
  exact ⟨by rw [HF.out];rfl,rfl⟩
 ·have HF:Hid (withinB l seg at_ n=false):=decide_eq_false (fun ⟨g1,g2,_⟩=>hs ⟨g1,g2⟩)
  clear h hb hat
  by_cases h0:seg<0
  ·go_enter Tryz.func275,Tryz.ntmps275
   go_wp2
   go_ret
   exact ⟨by rw [HF.out];rfl,rfl⟩
  ·have h1:(l.length:Int)≤seg:=by omega
   clear hs
   go_enter Tryz.func275,Tryz.ntmps275
   go_wp2
   go_ret
   exact ⟨by rw [HF.out];rfl,rfl⟩
def placeI (l:List Int) (seg at_:Int):Int:=if withinB l seg at_ 1=true then at_+(l.take seg.toNat).sum else -1
theorem zDH (A:Option Addr) (c:Nat) (l:List Int) (w:World) (h:SliceR 1 (.slice A l.length c) l.length (ints l) w) (hf:fitsB l=true) (seg at_:Int) :
    Calls Tryz.prog 315 #[.slice A l.length c,.int .i64 seg,.int .i64 at_] w fun e w'=>e=.returned (.int .i64 (placeI l seg at_))∧w=w':=by
 have hle:=zeE hf
 have hc:l.length≤c:=by
  obtain ⟨_,_,e,h2,_⟩:=h
  injection e with _ _ e3
  omega
 have HF:=LH (zhB A c l w h (fun x hx=>by have:=hle x hx;omega))
 rw [hf] at HF
 have HW:=LH (zVI A c l w h (fun x hx=>by have:=hle x hx;omega) seg at_ 1)
 have HH:=LH h
 have HP:=LH (zM hf)
 clear h
 rcases hwi:withinB l seg at_ 1 with _ | _
 ·rw [hwi] at HW
  have HE:Hid (placeI l seg at_ = -1):=LH (by unfold placeI;rw [hwi];rfl)
  clear hwi hle hf
  go_enter Tryz.func315,Tryz.ntmps315
  go_wp2_with fail
  refine HF.out.mono ?_
  rintro e w1 ⟨rfl,rfl⟩
  go_wp2_with fail
  refine HW.out.mono ?_
  rintro e w1 ⟨rfl,rfl⟩
  go_wp2
  go_ret
  exact ⟨by rw [HE.out];rfl,rfl⟩
 ·rw [hwi] at HW
  obtain ⟨g1,g2,g3,g4,g5⟩:=of_decide_eq_true hwi
  obtain ⟨s,rfl⟩:∃ s:Nat,seg=s:=⟨seg.toNat,by omega⟩
  have HE:Hid (placeI l s at_=at_+(l.take s).sum):=LH (by unfold placeI;rw [hwi,if_pos rfl,Int.toNat_natCast])
  have hs:(s:Int)<l.length:=g2
  have hsc:(s:Int)≤c:=by omega
  have HAT:Hid (0≤at_∧at_≤4096):=LH ⟨g3,by
   rw [Int.toNat_natCast] at g5
   have:l.getD s 0≤4096:=by
    rw [List.getD_eq_getElem?_getD,List.getElem?_eq_getElem (by omega)]
    exact (hle _ (List.getElem_mem (by omega))).2
   omega⟩
  have hs0:0≤(s:Int):=g1
  clear hwi hle hf g1 g2 g3 g4 g5
  go_enter Tryz.func315,Tryz.ntmps315
  go_wp2_with fail
  refine HF.out.mono ?_
  rintro e w1 ⟨rfl,rfl⟩
  go_wp2_with fail
  refine HW.out.mono ?_
  rintro e w1 ⟨rfl,rfl⟩
  go_wp2
  go_loopw [2,23] (fun va v wr=>wr=w∧∃ k:Nat,k≤s∧v=.int .i64 k∧va=.int .i64 (at_+(l.take k).sum)) (fun _ v _=>s-(intOf v).toNat)
  case atStart=>exact ⟨rfl,0,by omega,rfl,by simp⟩
  case round =>
   obtain ⟨rfl,k,hk,rfl,rfl⟩:=hrel
   by_cases hlt:k<s
   ·have hkl:k<l.length:=by omega
    obtain ⟨ad,rfl,q1⟩:=SliceR.int_at (k:=.i64) HH.out k hkl
    have hlt':(k:Int)<s:=by omega
    have hsu:=zw hkl
    have hw1:IntKind.i64.wrap ((k:Int)+1)=(k:Int)+1:=IntWalk.i64_in _ (by have:=HP.out.2.1;omega)
    have hw2:IntKind.i64.wrap (at_+(l.take k).sum+l[k])=at_+(l.take (k+1)).sum:=by
     have h1:=zl HP.out.2.2.1 (k+1)
     have h2:0≤(l.take (k+1)).sum:=zbA (fun x hx=>HP.out.2.2.1 x (List.mem_of_mem_take hx))
     have h3:=HP.out.2.2.2
     have h4:=HAT.out
     rw [Int.add_assoc,← hsu,IntWalk.i64_in _ (by omega)]
    have hk0:0≤(k:Int):=by omega
    generalize l[k]=lk at q1 hw2
    clear hsu
    go_wp2
    go_roundw
    case rel=>exact ⟨trivial,k+1,by omega,by go_num,by rw [← hw2]⟩
    case measure=>simp [intOf];omega
   ·obtain rfl:k=s:=by omega
    have hlt':¬ ((k:Int)<(k:Nat)):=by omega
    go_wp2
    go_ret
    exact ⟨by rw [HE.out];rfl,rfl⟩
def wordQ (d:Par) (seg at_:Int):Int×Int:=if placeI d.sz seg at_<0 then (0,20) else if getB d.known ((placeI d.sz seg at_).toNat/8)=true then (d.words.getD (placeI d.sz seg at_).toNat 0,0) else (0,30)
theorem zlJ {l:List Int} (hf:fitsB l=true) (seg at_:Int):placeI l seg at_ = -1∨∃ k:Nat,placeI l seg at_=k∧(k:Int)<l.sum∧k<4096:=by
 obtain ⟨f1,f2,f3,f4⟩:=zM hf
 unfold placeI
 split
 ·rename_i h
  obtain ⟨g1,g2,g3,g4,g5⟩:=of_decide_eq_true h
  have hs:seg.toNat<l.length:=by omega
  have h1:=zw hs
  have h2:=zl f3 (seg.toNat+1)
  have h3:0≤(l.take seg.toNat).sum:=zbA (fun x hx=>f3 x (List.mem_of_mem_take hx))
  have h4:l.getD seg.toNat 0=l[seg.toNat]:=by rw [List.getD_eq_getElem?_getD,List.getElem?_eq_getElem hs];rfl
  exact .inr ⟨(at_+(l.take seg.toNat).sum).toNat,by omega,by omega,by omega⟩
 ·exact .inl rfl
theorem PAt.cellsI {b:Nat} {p:PP} {d:Par} {G:Nat→Prop} {w:World} (h:PAt b p d G w):w.cell? ⟨b,3,none⟩=some (.slice p.As d.sz.length p.cs)∧w.cell? ⟨b,4,none⟩=some (.slice (some ⟨p.wb,0,none⟩) d.words.length p.cw)∧w.cell? ⟨b,5,none⟩=some (.slice p.Ak d.known.length p.ck):=by
 obtain ⟨_,_,_,c3,c4,c5,_⟩:=zQA h.cell
 exact ⟨c3,c4,c5⟩
theorem zNG {b:Nat} {p:PP} {d:Par} {G:Nat→Prop} {w:World} (h:PAt b p d G w) :
    Calls Tryz.prog 313 #[.pointer (some ⟨b,3,none⟩)] w fun e w'=>∃ A c,e=.returned (.slice A d.sz.length c)∧Grow w w'∧SliceR 1 (.slice A d.sz.length c) d.sz.length (ints d.sz) w':=by
 obtain ⟨c3,c4,c5⟩:=h.cellsI
 have HS:=LH h.ro.now.1
 clear h
 go_enter Tryz.func313,Tryz.ntmps313
 go_wp2
 go_ret
 exact ⟨_,_,rfl,Keep.refl _ _,HS.out⟩
theorem zEH {b:Nat} {p:PP} {d:Par} {G:Nat→Prop} {w:World} (h:PAt b p d G w) (seg at_:Int) :
    Calls Tryz.prog 314 #[.pointer (some ⟨b,3,none⟩),.int .i64 seg,.int .i64 at_] w fun e w'=>e=.returned (.tuple #[.int .u64 (wordQ d seg at_).1,.int .u16 (wordQ d seg at_).2])∧Grow w w':=by
 obtain ⟨c3,c4,c5⟩:=h.cellsI
 have HS:=LH h.ro.now
 have HR:=LH h.row
 have HO:=LH h.ok
 have HPL:=LH (zDH p.As p.cs d.sz w HS.out.1 HO.out.fit seg at_)
 have hin:=zlJ HO.out.fit seg at_
 have E:Hid (wordQ d seg at_=if placeI d.sz seg at_<0 then (0,20) else if getB d.known ((placeI d.sz seg at_).toNat/8)=true then (d.words.getD (placeI d.sz seg at_).toNat 0,0) else (0,30)):=LH rfl
 clear h
 rcases hin with hin | ⟨k,hin,hk,hk4⟩
 ·rw [hin] at E HPL
  clear hin
  go_enter Tryz.func314,Tryz.ntmps314
  go_wp2_with fail
  refine HPL.out.mono ?_
  rintro e w1 ⟨rfl,rfl⟩
  go_wp2
  go_ret2
  exact ⟨by rw [E.out];rfl,Keep.refl _ _⟩
 ·rw [hin,if_neg (by omega),Int.toNat_natCast] at E
  rw [hin] at HPL
  have hkw:k<d.words.length:=by have:=HO.out.wlen;omega
  have hk0:0≤(k:Int):=by omega
  have hk1:¬ (k:Int)<0:=by omega
  obtain ⟨k8,hk8⟩:∃ k8:Nat,k/8=k8:=⟨_,rfl⟩
  have hq:(k:Int)/8=(k8:Int):=by omega
  have hqt:(k:Int).tdiv 8=(k8:Int):=by rw [Int.tdiv_eq_ediv_of_nonneg hk0];exact hq
  have HBG:=LH (zhA p.Ak p.ck d.known HO.out.known k8 (by omega) w HS.out.2)
  rw [hk8] at E
  obtain ⟨adw,hadw,q1⟩:=SliceR.int_at (k:=.u64) (SliceR.of_own HR.out) k hkw
  injection hadw with hadw
  subst hadw
  have q2:w.cell? ⟨p.wb,k,none⟩=some (.int .u64 d.words[k]):=by
   have e:(⟨p.wb,0,none⟩:Addr).add k=⟨p.wb,k,none⟩:=by unfold Addr.add;split <;> simp_all
   rw [← e];exact q1
  clear q1
  have hkl:(k:Int)<d.words.length:=by omega
  have HGD:Hid (d.words.getD k 0=d.words[k]):=LH (by rw [List.getD_eq_getElem?_getD,List.getElem?_eq_getElem hkw];rfl)
  generalize d.words[k]=wk at q2 HGD
  clear hin hk hk8
  rcases hg:getB d.known k8 with _ | _
  ·rw [hg] at HBG
   rw [hg,if_neg (by decide)] at E
   clear hg
   go_enter Tryz.func314,Tryz.ntmps314
   go_wp2_with fail
   refine HPL.out.mono ?_
   rintro e w1 ⟨rfl,rfl⟩
   go_wp2_with fail
   refine HBG.out.mono ?_
   rintro e w1 ⟨rfl,rfl⟩
   go_wp2
   go_ret2
   exact ⟨by rw [E.out];rfl,Keep.refl _ _⟩
  ·rw [hg] at HBG
   rw [hg,if_pos rfl] at E
   clear hg
   go_enter Tryz.func314,Tryz.ntmps314
   go_wp2_with fail
   refine HPL.out.mono ?_
   rintro e w1 ⟨rfl,rfl⟩
   go_wp2_with fail
   refine HBG.out.mono ?_
   rintro e w1 ⟨rfl,rfl⟩
   go_wp2
   go_ret2
   exact ⟨by rw [E.out,HGD.out];rfl,Keep.refl _ _⟩
theorem zmJ (b : Nat) (w : World) : (method 494 271 (.pointer (some ⟨b, 3, none⟩)) "Word").run Tryz.prog w = .ok (314, .pointer (some ⟨b, 3, none⟩)) w := by kernel_rfl
theorem zWI (b : Nat) (w : World) : (method 494 271 (.pointer (some ⟨b, 3, none⟩)) "Sizes").run Tryz.prog w = .ok (313, .pointer (some ⟨b, 3, none⟩)) w := by kernel_rfl
theorem zBL {b:Nat} {p:PP} {d:Par} {G:Nat→Prop} {w:World} (h:PAt b p d G w):Sou (.iface 271 (.pointer (some ⟨b,3,none⟩))) d.sz (wordQ d) w :=
 ⟨_,_,_,_,_,rfl,zmJ b,zWI b,fun _ _ _=>by kernel_rfl,fun _=>by kernel_rfl,fun w' hg seg at_=>zEH (h.grow hg) seg at_,fun w' hg=>zNG (h.grow hg)⟩
theorem zOG (A1 A2:Option Addr) (c1 c2:Nat) (l1 l2:List Int) (h9:l1.length≤1000000) (w:World) (h1:SliceR 1 (.slice A1 l1.length c1) l1.length (ints l1) w) (h2:SliceR 1 (.slice A2 l2.length c2) l2.length (ints l2) w) :
    Calls Tryz.prog 256 #[.slice A1 l1.length c1,.slice A2 l2.length c2] w fun e w'=>e=.returned (.bool (decide (l1=l2)))∧Grow w w':=by
 by_cases hl:l1.length=l2.length
 case neg =>
  have hb:(((l1.length:Nat):Int) != ((l2.length:Nat):Int))=true:=by simp;omega
  have HE:Hid (decide (l1=l2)=false):=LH (decide_eq_false (fun e=>hl (by rw [e])))
  clear h1 h2
  go_enter Tryz.func256,Tryz.ntmps256
  go_wp2
  go_ret
  exact ⟨by rw [HE.out];rfl,Keep.refl _ _⟩
 have hb:(((l1.length:Nat):Int) != ((l2.length:Nat):Int))=false:=by simp;omega
 have H1:=LH h1
 have H2:=LH h2
 have HL:=LH hl
 clear h1 h2 hl
 go_enter Tryz.func256,Tryz.ntmps256
 go_wp2
 clear hb
 go_loopw [5,13] (fun v5 v wr=>∃ k:Nat,k≤l1.length∧v=.int .i64 k∧Hid (Grow w wr∧l1.take k=l2.take k)) (fun _ v _=>l1.length-(intOf v).toNat)
 case atStart=>exact ⟨0,by omega,rfl,LH ⟨Keep.refl _ _,by simp⟩⟩
 case round =>
  obtain ⟨k,hk,rfl,HR⟩:=hrel
  by_cases hlt:k<l1.length
  ·have hlt':(k:Int)<l1.length:=by omega
   have hw:IntKind.i64.wrap ((k:Int)+1)=(k:Int)+1:=IntWalk.i64_in _ (by omega)
   have hlt2:k<l2.length:=by have:=HL.out;omega
   have hlt2':(k:Int)<l2.length:=by omega
   have hk0:0≤(k:Int):=by omega
   obtain ⟨ad1,rfl,q1⟩:=SliceR.int_at (k:=.i64) (H1.out.grow HR.out.1) k hlt
   obtain ⟨ad2,rfl,q2⟩:=SliceR.int_at (k:=.i64) (H2.out.grow HR.out.1) k hlt2
   have HT:Hid (l1[k]=l2[k]→l1.take (k+1)=l2.take (k+1)):=LH (fun e=>by
    rw [List.take_succ_eq_append_getElem hlt,List.take_succ_eq_append_getElem hlt2,HR.out.2,e])
   have HF:Hid (l1[k]≠l2[k]→¬ (l1=l2)):=LH (fun e e2=>by subst e2;exact e rfl)
   generalize l1[k]=x1 at q1 HT HF
   generalize l2[k]=x2 at q2 HT HF
   go_wp2
   refine zE [0,1,2,3,4,5,6,7,8] [] [3,7] [] rfl (by kernel_rfl) ?_
   iterate 3
    refine ord_p ?_
   refine oc1 q1 ?_
   iterate 3
    refine ord_p ?_
   refine oc1 q2 ?_
   refine ord_p ?_
   refine zD ?_
   have HG:=LH (HR.out.1.grow (Keep.refl NoB wr).drew)
   by_cases hx:x1=x2
   ·have hxb:(x1 != x2)=false:=by simp [hx]
    have HN:=LH (And.intro HG.out (HT.out hx))
    clear hx
    go_wp2
    go_roundw
    case rel=>exact ⟨k+1,by omega,by go_num,HN⟩
    case measure=>simp [intOf];omega
   ·have hxb:(x1 != x2)=true:=by simp [hx]
    have HN:=LH (HF.out hx)
    clear hx
    go_wp2
    go_ret
    exact ⟨by rw [decide_eq_false HN.out];rfl,HG.out⟩
  ·obtain rfl:k=l1.length:=by omega
   have hlt':¬ ((l1.length:Int)<l1.length):=by omega
   have HN:Hid (l1=l2):=LH (by
    have:=HR.out.2
    rw [List.take_length,HL.out,List.take_length] at this
    exact this)
   go_wp2
   go_ret
   exact ⟨by rw [decide_eq_true HN.out];rfl,HR.out.1⟩
theorem zFH (s1 s2:Int) (m1 m2:Nat) (A1 A2:Option Addr) (c1 c2:Nat) (l1 l2:List Int) (h9:l1.length≤1000000) (w:World) (h1:SliceR 1 (.slice A1 l1.length c1) l1.length (ints l1) w) (h2:SliceR 1 (.slice A2 l2.length c2) l2.length (ints l2) w) :
    Calls Tryz.prog 222 #[.agg #[.int .u64 s1,.slice A1 l1.length c1,.int .u32 (m1:Nat)],.agg #[.int .u64 s2,.slice A2 l2.length c2,.int .u32 (m2:Nat)]] w fun e w'=>e=.returned (.bool (decide (s1=s2∧m1=m2∧l1=l2)))∧Grow w w':=by
 obtain ⟨ha,hb,hg⟩:=zU w (.cells #[.int .u64 s1,.slice A1 l1.length c1,.int .u32 (m1:Nat)] 40) (.cells #[.int .u64 s2,.slice A2 l2.length c2,.int .u32 (m2:Nat)] 40)
 obtain ⟨a0,a1,a2,af⟩:=zI ha
 obtain ⟨b0,b1,b2,bf⟩:=zI hb
 have HG:=LH hg
 have HE:=LH (zOG A1 A2 c1 c2 l1 l2 h9 _ (h1.grow hg) (h2.grow hg))
 clear h1 h2 ha hb hg
 by_cases hs:s1=s2
 case neg =>
  have hsb:(s1==s2)=false:=by simp [hs]
  have HN:=LH hs
  clear hs
  go_enter Tryz.func222,Tryz.ntmps222
  go_wp2
  go_ret
  exact ⟨by rw [decide_eq_false (fun h=>HN.out h.1)];rfl,HG.out⟩
 by_cases hm:m1=m2
 case neg =>
  have hsb:(s1==s2)=true:=by simp [hs]
  have hmb:(((m1:Nat):Int)==((m2:Nat):Int))=false:=by simp;omega
  have HN:=LH hm
  clear hs hm
  go_enter Tryz.func222,Tryz.ntmps222
  go_wp2
  go_ret
  exact ⟨by rw [decide_eq_false (fun h=>HN.out h.2.1)];rfl,HG.out⟩
 have hsb:(s1==s2)=true:=by simp [hs]
 have hmb:(((m1:Nat):Int)==((m2:Nat):Int))=true:=by simp;omega
 have HN:=LH (And.intro hs hm)
 clear hs hm
 go_enter Tryz.func222,Tryz.ntmps222
 go_wp2_with fail
 refine HE.out.mono ?_
 rintro e w1 ⟨rfl,hg⟩
 have HG2:=LH (HG.out.grow hg)
 clear hg
 by_cases hl:l1=l2
 ·have hd:decide (l1=l2)=true:=decide_eq_true hl
  rw [hd]
  have HL:=LH hl
  clear hl hd
  go_wp2
  go_ret
  exact ⟨by rw [decide_eq_true ⟨HN.out.1,HN.out.2,HL.out⟩];rfl,HG2.out⟩
 ·have hd:decide (l1=l2)=false:=decide_eq_false hl
  rw [hd]
  have HL:=LH hl
  clear hl hd
  go_wp2
  go_ret
  exact ⟨by rw [decide_eq_false (fun h=>HL.out h.2.2)];rfl,HG2.out⟩
theorem zPG (session:Int) (h0:0≤session) (h1:session≤18446744073709551615) (sum:Nat) (A1:Option Addr) (c1:Nat) (l:List Int) (hl9:l.length≤1000000) (a:List (List Int)) (ho:OkA a) (hfit:fitsB (szs a)=true) (hfl:a.flatten.length≤1000000) (A:Option Addr) (c:Nat) (w:World) (hS:SliceR 1 (.slice A1 l.length c1) l.length (ints l) w) (hR:RowsR .u64 a (.slice A a.length c) w) :
    Calls Tryz.prog 171 #[.agg #[.int .u64 session,.slice A1 l.length c1,.int .u32 (sum:Nat)],.slice A a.length c] w fun e w'=>e=.returned (.bool (decide (sum=sumP session a∧l=szs a)))∧Grow w w':=by
 have hg0:=(Keep.refl NoB w).alloc (.cells #[.int .u64 session,.slice A1 l.length c1,.int .u32 (sum:Nat)] 40)
 have hc0:=heap_alloc_new w (.cells #[.int .u64 session,.slice A1 l.length c1,.int .u32 (sum:Nat)] 40)
 have HG:=LH hg0
 have HC:=LH hc0
 have HS:=LH (hS.grow hg0)
 have HM:=LH (ztF session h0 h1 a ho hfit hfl A c _ (hR.grow hg0))
 obtain ⟨m0,m1,m2,mf⟩:=zI hc0
 clear hg0 hc0 hS hR
 go_enter Tryz.func171,Tryz.ntmps171
 go_wp2_with fail
 refine HM.out.mono ?_
 rintro e w1 ⟨A2,c2,rfl,hg,F,hF,_⟩
 have hga:=(Keep.refl NoB w1).alloc (.cells #[.int .u64 session,.slice A2 (szs a).length c2,.int .u32 (sumP session a:Nat)] 40)
 have hca:=heap_alloc_new w1 (.cells #[.int .u64 session,.slice A2 (szs a).length c2,.int .u32 (sumP session a:Nat)] 40)
 obtain ⟨n0,n1,n2,nf⟩:=zI hca
 have hc1:=Grow.heap (hg.grow hga) HC.out
 clear m0 m1 m2 mf
 obtain ⟨m0,m1,m2,mf⟩:=zI hc1
 have hms:=(zFH session session sum (sumP session a) A1 A2 c1 c2 l (szs a) hl9 _ (HS.out.grow (hg.grow hga)) (hF.grow hga).now)
 rw [show decide (session=session∧sum=sumP session a∧l=szs a)=decide (sum=sumP session a∧l=szs a) from by simp] at hms
 obtain ⟨b,hb⟩:∃ b,decide (sum=sumP session a∧l=szs a)=b:=⟨_,rfl⟩
 rw [hb] at hms
 have HB:=LH hb
 have HE:=LH hms
 clear hms hb
 replace HG:=LH (HG.out.grow (hg.grow hga))
 clear hg hga hca hc1 hF
 go_wp2_with fail
 refine HE.out.mono ?_
 rintro e w2 ⟨rfl,hg⟩
 have HG2:=LH (HG.out.grow hg)
 clear hg
 go_wp2
 go_ret
 exact ⟨by rw [HB.out];rfl,HG2.out⟩
theorem zH {w:World} {g T:Nat} {a0 a1 a2 a3 a4 a5 a6 a7 a8 a9 a10 a11 a12 a13 a14 a15 a16 a17 a18 a19 a20:Value} (h:w.heap[g]? = some (.cells #[a0,a1,a2,a3,a4,a5,a6,a7,a8,a9,a10,a11,a12,a13,a14,a15,a16,a17,a18,a19,a20] T (0,0))):w.cell? ⟨g,0,none⟩=some a0∧w.cell? ⟨g,1,none⟩=some a1∧w.cell? ⟨g,2,none⟩=some a2∧w.cell? ⟨g,3,none⟩=some a3∧w.cell? ⟨g,4,none⟩=some a4∧w.cell? ⟨g,5,none⟩=some a5∧w.cell? ⟨g,6,none⟩=some a6∧w.cell? ⟨g,7,none⟩=some a7∧w.cell? ⟨g,8,none⟩=some a8∧w.cell? ⟨g,9,none⟩=some a9∧w.cell? ⟨g,10,none⟩=some a10∧w.cell? ⟨g,11,none⟩=some a11∧w.cell? ⟨g,12,none⟩=some a12∧w.cell? ⟨g,13,none⟩=some a13∧w.cell? ⟨g,14,none⟩=some a14∧w.cell? ⟨g,15,none⟩=some a15∧w.cell? ⟨g,16,none⟩=some a16∧w.cell? ⟨g,17,none⟩=some a17∧w.cell? ⟨g,18,none⟩=some a18∧w.cell? ⟨g,19,none⟩=some a19∧w.cell? ⟨g,20,none⟩=some a20∧∀ o,w.frozen? ⟨g,o,none⟩=false :=
 ⟨World.news_of_block h 0 _ rfl,World.news_of_block h 1 _ rfl,World.news_of_block h 2 _ rfl,World.news_of_block h 3 _ rfl,World.news_of_block h 4 _ rfl,World.news_of_block h 5 _ rfl,World.news_of_block h 6 _ rfl,World.news_of_block h 7 _ rfl,World.news_of_block h 8 _ rfl,World.news_of_block h 9 _ rfl,World.news_of_block h 10 _ rfl,World.news_of_block h 11 _ rfl,World.news_of_block h 12 _ rfl,World.news_of_block h 13 _ rfl,World.news_of_block h 14 _ rfl,World.news_of_block h 15 _ rfl,World.news_of_block h 16 _ rfl,World.news_of_block h 17 _ rfl,World.news_of_block h 18 _ rfl,World.news_of_block h 19 _ rfl,World.news_of_block h 20 _ rfl,fun o=>zN o h⟩
structure Sl where
 A:Option Addr
 n:Nat
 c:Nat
def Sl.v (s:Sl):Value:=.slice s.A s.n s.c
structure RC where
 part:Option Addr
 win:Int
 back:Int
 retry:Int
 quota:Int
 st:Nat
 phase:Int
 err:Int
 session:Int
 sum:Nat
 of:Int
 h0:Bool
 h1:Bool
 h2:Bool
 h3:Bool
 z0:Sl
 z1:Sl
 z2:Sl
 z3:Sl
 resumed:Bool
 closed:Bool
def RC.cs (d:RC):Array Value:=#[.pointer d.part,.int .i64 d.win,.int .i64 d.back,.int .i64 d.retry,.int .i64 d.quota,.pointer (some ⟨d.st,0,none⟩),.int .i64 d.phase,.int .u16 d.err,.int .u64 d.session,.int .u32 (d.sum:Nat),.int .i64 d.of,.bool d.h0,.bool d.h1,.bool d.h2,.bool d.h3,.slice d.z0.A d.z0.n d.z0.c,.slice d.z1.A d.z1.n d.z1.c,.slice d.z2.A d.z2.n d.z2.c,.slice d.z3.A d.z3.n d.z3.c,.bool d.resumed,.bool d.closed]
def RCell (g:Nat) (d:RC) (w:World):Prop:=w.heap[g]? = some (.cells d.cs 173 (0,0))
theorem RCell.keep {g:Nat} {d:RC} {w w':World} {S:Nat→Prop} (h:RCell g d w) (hk:Keep S w w') (hg:¬ S g):RCell g d w':=(hk.block g (gE h).1 hg).trans h
theorem RCell.grow {g:Nat} {d:RC} {w w':World} (h:RCell g d w) (hk:Grow w w'):RCell g d w':=h.keep hk (fun h=>h)
theorem RCell.lt {g:Nat} {d:RC} {w:World} (h:RCell g d w):g<w.heap.size:=(gE h).1
theorem RCell.put {g:Nat} {d d':RC} {w:World} (h:RCell g d w) (i:Nat) (v:Value) (hd:d.cs.setIfInBounds i v=d'.cs):RCell g d' (w.setCell ⟨g,i,none⟩ v)∧Keep (fun k=>k=g) w (w.setCell ⟨g,i,none⟩ v):=by
 refine ⟨?_,(Keep.refl (fun k=>k=g) w).setCell (p:=⟨g,i,none⟩) (.inl rfl) _⟩
 unfold RCell at *
 simp only [World.setCell,Array.getElem?_modify]
 simp [h,hd]
end Go.Proofs.YtfkcpaahdlkcdaaGreat
namespace Go.Proofs.YtfkcpaahdlkcdaaGreat
open Go.RowKit
def RC.fail (d:RC) (e:Int):RC:=⟨none,d.win,d.back,d.retry,d.quota,d.st,3,e,d.session,d.sum,0,false,false,false,false,⟨none,0,0⟩,⟨none,0,0⟩,⟨none,0,0⟩,⟨none,0,0⟩,false,false⟩
theorem Keep.setRow {S:Nat→Prop} {a b:World} (h:Keep S a b) {r:Nat} (hr:S r∨a.heap.size≤r) (cs:Array Value):Keep S a (b.setRow r cs) :=
 ⟨h.os,h.tape,h.output,by simpa [World.setRow] using h.size,fun i hi hS=>by
  show (b.heap.modify r _)[i]? = _
  rw [Array.getElem?_modify,if_neg (by intro e;subst e;rcases hr with hr | hr;exact hS hr;omega)]
  exact h.block i hi hS⟩
section
variable {P:Program} {ops:Array Oper} {Q:Exit→Act→World→Prop} {ds:List Nat} {S:Nat→Prop} {R:Act→World→Prop} {acts reads rest:List Nat} {a:Act} {w:World} {i:Nat} {o:Oper}
theorem zfE (hl:ops.toList[i]? = some o) (ha:acts.contains i=true) (hN:o.dst=none) (hg:o.guard=none) (ty:TypeId) (x y:Operand) (hop:o.op=Op.store ty x y) (g:Nat) (cells:Array Value) (hx:a.eval x=.pointer (some ⟨g,0,none⟩)) (hy:a.eval y=.agg cells)
    (t:TypeId) (old:Array Value) (hgc:w.heap[g]? = some (.cells old t (0,0))) (hi:(P.info? ty).map (·.size)=some cells.size) (hold:old.size=cells.size) (h1:cells.all (·.oneCell')=true)
    (hk:i∉ds→Keep S w (w.setRow g cells)) (h:wpOrdC S P ops Q R acts reads ds rest a (w.setRow g cells)):wpOrdC S P ops Q R acts reads ds (i :: rest) a w:=by
 refine zmA hl ha (fun K hK=>?_)
 rw [if_pos (by simp [Region.wanted,hg])]
 refine wp_store_row ty x y hop g cells hx hy t old hgc hi hold h1 ?_
 rw [hN]
 exact hK _ _ ⟨hk,h⟩
end
theorem znJ:(Tryz.prog.info? 173).map (·.size)=some 21:=by kernel_rfl
theorem RC.cs_all (d:RC):d.cs.all (·.oneCell')=true:=by simp [RC.cs,Value.oneCell']
theorem RCell.row {g:Nat} {d:RC} {w:World} (h:RCell g d w) (d':RC):RCell g d' (w.setRow g d'.cs)∧Keep (fun k=>k=g) w (w.setRow g d'.cs) :=
 ⟨setRow_heap w g d.cs d'.cs _ _ h,(Keep.refl (fun k=>k=g) w).setRow (.inl rfl) _⟩
theorem zFC {g:Nat} {d:RC} {w:World} (h:RCell g d w) (e:Int) :
    Calls Tryz.prog 172 #[.pointer (some ⟨g,0,none⟩),.int .u16 e] w fun ee w'=>(∃ v,ee=.returned v)∧RCell g (d.fail e) w'∧Keep (fun k=>k=g) w w':=by
 obtain ⟨c0,c1,c2,c3,c4,c5,c6,c7,c8,c9,c10,c11,c12,c13,c14,c15,c16,c17,c18,c19,c20,cf⟩:=zH h
 have HE:=LH h
 clear h
 go_enter Tryz.func172,Tryz.ntmps172
 go_wp2
 refine zE [0,1,2,3,4,5,6,7,8,9,10,11,12,13,14,15,16,17,18,19,20] [20] [4,8,13,17] [20] rfl (by kernel_rfl) ?_
 iterate 4
  refine ord_p ?_
 refine ord_r (y:=by intro w' hg;have q1:=hg.cell c1 (fun h=>h);have q2:=hg.cell c2 (fun h=>h);have q3:=hg.cell c3 (fun h=>h);have q4:=hg.cell c4 (fun h=>h);go_simp;with_reducible rfl) (z:=?_)
 iterate 3
  refine ord_p ?_
 refine oc1 c5 ?_
 iterate 4
  refine ord_p ?_
 refine oc1 c8 ?_
 iterate 3
  refine ord_p ?_
 refine oc1 c9 ?_
 iterate 2
  refine ord_p ?_
 refine zfE rfl rfl rfl rfl _ _ _ rfl g (d.fail e).cs rfl rfl _ d.cs HE.out znJ rfl (RC.cs_all _) (fun h=>absurd (by simp) h) ?_
 refine zD ?_
 have hr:=RCell.row (w:=w.drew) HE.out (d.fail e)
 have hk:=(Keep.refl (fun k=>k=g) w).drew.trans hr.2 (fun k hk=>.inl hk)
 have HR:=LH hr.1
 have HK:=LH hk
 clear hr hk c0 c1 c2 c3 c4 c5 c6 c7 c8 c9 c10 c11 c12 c13 c14 c15 c16 c17 c18 c19 c20 cf
 generalize w.drew.setRow g (d.fail e).cs=w9 at HR HK ⊢
 go_wp2
 go_end0
 exact ⟨⟨_,rfl⟩,HR.out,HK.out⟩
theorem zhD {g:Nat} {d:RC} {w:World} (h:RCell g d w) (kind index:Int) :
    Calls Tryz.prog 124 #[.pointer (some ⟨g,0,none⟩),.int .i64 kind,.int .i64 index] w fun e w'=>e=.returned (.agg #[.int .i64 kind,.int .u64 d.session,.int .i64 index,qJ,.int .u32 (d.sum:Nat),qI,qI])∧Grow w w':=by
 have HG:=LH ((Keep.refl NoB w).alloc (.cells qE 46))
 have H:=LH (h.grow HG.out)
 have HC:=LH (heap_alloc_new w (.cells qE 46))
 clear h
 go_enter Tryz.func124,Tryz.ntmps124
 go_wp2
 generalize w.alloc (.cells qE 46)=w1 at HG H HC ⊢
 obtain ⟨c0,c1,c2,c3,c4,c5,c6,c7,c8,c9,c10,c11,c12,c13,c14,c15,c16,c17,c18,c19,c20,cf⟩:=zH H.out
 obtain ⟨z0,z1,z2,z3,z4,z5,z6,zf⟩:=zC HC.out
 refine zE [0,1,2,3,4,5,6,7,8,9,10,11] [11] [4,8] [11] rfl (by kernel_rfl) ?_
 iterate 4
  refine ord_p ?_
 refine oc1 c8 ?_
 iterate 3
  refine ord_p ?_
 refine oc1 c9 ?_
 iterate 2
  refine ord_p ?_
 refine zJ rfl rfl rfl rfl ?_ ?_ (fun h=>absurd (by simp) h) ?_
 rotate_left
 ·go_simp;with_reducible rfl
 refine zD ?_
 have HS:=LH (zc (.int .i64 kind) (.int .u64 d.session) (.int .i64 index) (.int .i64 0) (.int .u32 (d.sum:Nat)) (.slice none 0 0) (.slice none 0 0) HG.out (Nat.le_refl _) HC.out)
 obtain ⟨W2,hW2⟩:∃ W2,(((((((w1.setCell ⟨w.heap.size,0,none⟩ (.int .i64 kind)).setCell ⟨w.heap.size,1,none⟩ (.int .u64 d.session)).setCell ⟨w.heap.size,2,none⟩ (.int .i64 index)).setCell ⟨w.heap.size,3,none⟩ (.int .i64 0)).setCell ⟨w.heap.size,4,none⟩ (.int .u32 (d.sum:Nat))).setCell ⟨w.heap.size,5,none⟩ (.slice none 0 0)).setCell ⟨w.heap.size,6,none⟩ (.slice none 0 0))=W2:=⟨_,rfl⟩
 rw [hW2] at HS ⊢
 clear hW2 c0 c1 c2 c3 c4 c5 c6 c7 c8 c9 c10 c11 c12 c13 c14 c15 c16 c17 c18 c19 c20 cf z0 z1 z2 z3 z4 z5 z6 zf
 obtain ⟨z0,z1,z2,z3,z4,z5,z6,zf⟩:=zC HS.out.1
 go_wp2
 refine bodyPost_ret (v:=.agg #[.int .i64 kind,.int .u64 d.session,.int .i64 index,qJ,.int .u32 (d.sum:Nat),qI,qI]) ?_ rfl ⟨rfl,HS.out.2.drew⟩
 rw [zO rfl];go_simp
theorem zEB {g:Nat} {d:RC} {w:World} (h:RCell g d w) (k s i o:Int) (m:Nat) (A1 A2:Option Addr) (n1 c1' n2 c2':Nat) :
    Calls Tryz.prog 177 #[.pointer (some ⟨g,0,none⟩),.agg #[.int .i64 k,.int .u64 s,.int .i64 i,.int .i64 o,.int .u32 (m:Nat),.slice A1 n1 c1',.slice A2 n2 c2']] w fun e w'=>e=.returned (.bool (decide (s=d.session∧m=d.sum)))∧Grow w w':=by
 have hg0:=(Keep.refl NoB w).alloc (.cells #[.int .i64 k,.int .u64 s,.int .i64 i,.int .i64 o,.int .u32 (m:Nat),.slice A1 n1 c1',.slice A2 n2 c2'] 46)
 have hz:=heap_alloc_new w (.cells #[.int .i64 k,.int .u64 s,.int .i64 i,.int .i64 o,.int .u32 (m:Nat),.slice A1 n1 c1',.slice A2 n2 c2'] 46)
 obtain ⟨c0,c1,c2,c3,c4,c5,c6,c7,c8,c9,c10,c11,c12,c13,c14,c15,c16,c17,c18,c19,c20,cf⟩:=zH (h.grow hg0)
 obtain ⟨z0,z1,z2,z3,z4,z5,z6,zf⟩:=zC hz
 have HG:=LH hg0
 clear h hg0 hz
 go_enter Tryz.func177,Tryz.ntmps177
 go_wp2
 by_cases hs:s=d.session
 case neg =>
  have hsb:(s==d.session)=false:=by simp [hs]
  have HN:Hid (decide (s=d.session∧m=d.sum)=false):=LH (decide_eq_false (fun h=>hs h.1))
  clear hs
  refine zE [0,1,2,3,4,5,6,7,8,9,10,11,12,13,14,15,16] [16] [1,5,9,13] [] rfl (by kernel_rfl) ?_
  refine ord_p ?_
  refine oc1 z1 ?_
  iterate 3
   refine ord_p ?_
  refine oc1 c8 ?_
  iterate 2
   refine ord_p ?_
  iterate 7
   refine zIB rfl rfl rfl rfl (fun _ _ _ _ h=>h) ?_ ?_ ?_
   rotate_left 1
   ·simp only [Act.put,pB,pC,pD];rfl
  refine ord_p ?_
  refine ord_s ?_
  refine zD ?_
  go_wp2
  go_ret
  exact ⟨by rw [HN.out];rfl,HG.out.drew⟩
 have hsb:(s==d.session)=true:=by simp [hs]
 obtain ⟨b,hb⟩:∃ b,decide (s=d.session∧m=d.sum)=b:=⟨_,rfl⟩
 have hmb:(((m:Nat):Int)==((d.sum:Nat):Int))=b:=by
  rw [← hb]
  by_cases hm:m=d.sum
  ·simp [hs,hm]
  ·rw [decide_eq_false (fun h=>hm h.2),beq_eq_false_iff_ne]
   omega
 have HB:=LH hb
 clear hs hb
 refine zE [0,1,2,3,4,5,6,7,8,9,10,11,12,13,14,15,16] [16] [1,5,9,13] [] rfl (by kernel_rfl) ?_
 refine ord_p ?_
 refine oc1 z1 ?_
 iterate 3
  refine ord_p ?_
 refine oc1 c8 ?_
 iterate 2
  refine ord_p ?_
 refine zT ?_
 refine oc1G z4 ?_
 iterate 3
  refine zT ?_
 refine oc1G c9 ?_
 refine zT ?_
 refine ord_p ?_
 refine ord_s ?_
 refine zD ?_
 go_wp2
 go_ret
 exact ⟨by rw [HB.out];rfl,HG.out.drew⟩
end Go.Proofs.YtfkcpaahdlkcdaaGreat

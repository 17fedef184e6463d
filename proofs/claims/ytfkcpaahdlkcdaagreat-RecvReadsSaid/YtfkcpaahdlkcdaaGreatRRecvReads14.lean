import Derived.Test.YtfkcpaahdlkcdaaGreatRRecvReads12
import Derived.Test.YtfkcpaahdlkcdaaGreatRRecvReads13
set_option linter.unusedSimpArgs false
set_option linter.unusedVariables false
set_option maxRecDepth 100000
set_option maxHeartbeats 16000000
namespace Go.Proofs.YtfkcpaahdlkcdaaGreat
open Go.RowKit
def chunkP (a:List (List Int)) (i:Nat):List Int:=pieceL (arenaB a) 64 i
def pageP (l:List Int) (i:Nat):List Int:=pieceL l 4 i
theorem zMJ (a:List (List Int)) (i:Nat):∀ c∈chunkP a i,0≤c∧c≤255:=fun c hc=>ztC a c (List.mem_of_mem_drop (List.mem_of_mem_take hc))
theorem zvC (l:List Int) (i:Nat):(pageP l i).length≤4:=by unfold pageP;rw [zHA];unfold chL;omega
theorem zUD (a:List (List Int)):(szs a).sum=(a.flatten.length:Nat):=by
 induction a with
 | nil=>rfl
 | cons x a ih=>simp only [szs,List.map_cons,List.sum_cons,List.flatten_cons,List.length_append] at ih ⊢;omega
end Go.Proofs.YtfkcpaahdlkcdaaGreat
namespace Go.Proofs.YtfkcpaahdlkcdaaGreat
open Go.RowKit Go.Shelf
attribute [local go_sem] Oper.semAt_some
theorem zQA {w:World} {g T:Nat} {a0 a1 a2 a3 a4 a5:Value} (h:w.heap[g]? = some (.cells #[a0,a1,a2,a3,a4,a5] T (0,0))):w.cell? ⟨g,0,none⟩=some a0∧w.cell? ⟨g,1,none⟩=some a1∧w.cell? ⟨g,2,none⟩=some a2∧w.cell? ⟨g,3,none⟩=some a3∧w.cell? ⟨g,4,none⟩=some a4∧w.cell? ⟨g,5,none⟩=some a5∧∀ o,w.frozen? ⟨g,o,none⟩=false :=
 ⟨World.news_of_block h 0 _ rfl,World.news_of_block h 1 _ rfl,World.news_of_block h 2 _ rfl,World.news_of_block h 3 _ rfl,World.news_of_block h 4 _ rfl,World.news_of_block h 5 _ rfl,fun o=>zN o h⟩
structure Par where
 session:Int
 sz:List Int
 sum:Nat
 words:List Int
 known:List Int
structure PP where
 As:Option Addr
 cs:Nat
 wb:Nat
 cw:Nat
 Ak:Option Addr
 ck:Nat
structure OkP (d:Par):Prop where
 s0:0≤d.session
 s1:d.session≤18446744073709551615
 sum:d.sum<4294967296
 fit:fitsB d.sz=true
 wlen:(d.words.length:Int)=d.sz.sum
 win:∀ x∈d.words,0≤x∧x≤18446744073709551615
 known:OkB d.known
 klen:d.known.length=(chunksN d.sz+7)/8
structure PAt (b:Nat) (p:PP) (d:Par) (G:Nat→Prop) (w:World):Prop where
 cell:w.heap[b]? = some (.cells #[.int .u64 d.session,.slice p.As d.sz.length p.cs,.int .u32 (d.sum:Nat),.slice p.As d.sz.length p.cs,.slice (some ⟨p.wb,0,none⟩) d.words.length p.cw,.slice p.Ak d.known.length p.ck] 247 (0,0))
 row:w.ownsRow 0 22 1 (.slice (some ⟨p.wb,0,none⟩) d.words.length p.cw) d.words.length (u64s d.words)
 ro:Foot (fun w=>SliceR 1 (.slice p.As d.sz.length p.cs) d.sz.length (ints d.sz) w∧SliceR 1 (.slice p.Ak d.known.length p.ck) d.known.length (u8s d.known) w) w G
 dis:b≠p.wb∧¬ G b∧¬ G p.wb
 ok:OkP d
theorem PAt.keep {b:Nat} {p:PP} {d:Par} {G S:Nat→Prop} {w w':World} (h:PAt b p d G w) (hk:Keep S w w') (hb:¬ S b) (hw:¬ S p.wb) (hG:∀ k,G k→¬ S k):PAt b p d G w' :=
 ⟨(hk.block b (gE h.cell).1 hb).trans h.cell,zF h.row hk (fun k hq=>by cases hq;exact hw),h.ro.keep hk hG,h.dis,h.ok⟩
theorem PAt.grow {b:Nat} {p:PP} {d:Par} {G:Nat→Prop} {w w':World} (h:PAt b p d G w) (hk:Grow w w'):PAt b p d G w':=h.keep hk (fun h=>h) (fun h=>h) (fun _ _ h=>h)
theorem PAt.lt {b:Nat} {p:PP} {d:Par} {G:Nat→Prop} {w:World} (h:PAt b p d G w):b<w.heap.size∧p.wb<w.heap.size:=⟨(gE h.cell).1,(h.row.lt p.wb rfl).2⟩
def setN (ws:List Int) (i:Nat) (bs:List Int):Nat→List Int
 | 0=>ws
 | k+1=>(setN ws i bs k).set (i*8+k) (leW (pieceL bs 8 k))
def setP (ws:List Int) (i:Nat) (bs:List Int) (pre:List Nat):List Int:=(List.range pre.length).foldl (fun l k=>l.set (i*8+k) (leW (pieceL bs 8 (pre.getD k 0)))) ws
theorem zrE (ws:List Int) (i:Nat) (bs:List Int) (pre:List Nat) (x:Nat):setP ws i bs (pre++[x])=(setP ws i bs pre).set (i*8+pre.length) (leW (pieceL bs 8 x)):=by
 unfold setP
 rw [List.length_append,List.length_singleton,List.range_succ,List.foldl_append]
 have e:∀ (m:Nat) (l:List Int),m≤pre.length→(List.range m).foldl (fun l k=>l.set (i*8+k) (leW (pieceL bs 8 ((pre++[x]).getD k 0)))) l=(List.range m).foldl (fun l k=>l.set (i*8+k) (leW (pieceL bs 8 (pre.getD k 0)))) l:=by
  intro m
  induction m with
  | zero=>intro l _;rfl
  | succ m ih =>
   intro l hm
   rw [List.range_succ,List.foldl_append,List.foldl_append,ih l (by omega)]
   have e2:(pre++[x]).getD m 0=pre.getD m 0:=by
    rw [List.getD_eq_getElem?_getD,List.getD_eq_getElem?_getD,List.getElem?_append_left (by omega)]
   simp only [List.foldl_cons,List.foldl_nil,e2]
 rw [e _ _ (Nat.le_refl _)]
 have e3:(pre++[x]).getD pre.length 0=x:=by simp [List.getD_eq_getElem?_getD]
 simp only [List.foldl_cons,List.foldl_nil,e3]
theorem zsE (ws:List Int) (i:Nat) (bs:List Int):∀ m,setP ws i bs (upto (fun k=>k) m)=setN ws i bs m
 | 0=>rfl
 | m+1=>by
  rw [zaA,zrE,zsE ws i bs m,znA]
  rfl
theorem zNA (ws:List Int) (i:Nat) (bs:List Int):∀ m,(setN ws i bs m).length=ws.length
 | 0=>rfl
 | m+1=>by unfold setN;rw [List.length_set];exact zNA ws i bs m
theorem zEC (ws:List Int) (i:Nat) (bs:List Int) (pre:List Nat):(setP ws i bs pre).length=ws.length:=by
 unfold setP
 generalize List.range pre.length=r
 induction r generalizing ws with
 | nil=>rfl
 | cons x r ih=>rw [List.foldl_cons,ih,List.length_set]
theorem zYK (l:List Int) (i:Nat) (x:Int):(u64s l).set i (.int .u64 x)=u64s (l.set i x):=by
 simp [u64s,List.map_set]
theorem ziL (bs:List Int) (k:Nat):(pieceL bs 8 k).length≤8:=by rw [zHA];unfold chL;omega
theorem OkB.piece {bs:List Int} (h:OkB bs) (each k:Nat):OkB (pieceL bs each k):=fun c hc=>h c (List.mem_of_mem_drop (List.mem_of_mem_take hc))
def putD (d:Par) (i:Nat) (bs:List Int):Par:=if getB d.known i=true then d else { d with words:=setN d.words i bs (bs.length/8),known:=setB d.known i }
theorem zjH {ws:List Int} (hw:∀ x∈ws,0≤x∧x≤18446744073709551615) {bs:List Int} (hb:OkB bs) (i:Nat):∀ m,∀ x∈setN ws i bs m,0≤x∧x≤18446744073709551615
 | 0=>hw
 | m+1=>fun x hx=>by
  unfold setN at hx
  rcases List.mem_or_eq_of_mem_set hx with h | rfl
  ·exact zjH hw hb i m x h
  ·exact zEM (hb.piece 8 m) (ziL bs m)
theorem zjL {base e size n:Nat} {A:Option Addr} {m c:Nat} {xs:List Value} {w:World} (h:w.ownsRow base e size (.slice A m c) n xs):n≤c:=by
 obtain ⟨A',c',e',hc,_⟩:=zK h
 injection e' with _ _ e3
 subst e3
 exact hc
theorem zyC (g j:Nat):(⟨g,0,none⟩:Addr).add j=⟨g,j,none⟩:=by
 unfold Addr.add
 split
 ·rename_i h;rw [h]
 ·simp
theorem KeepB.setAt {B:Nat} {X:Nat→Prop} {a c:World} (h:KeepB B X a c) {p:Addr} (hg:B≤p.block) (hX:∀ k,X k→k≠p.block) (u:Value):KeepB B X a (c.setCell p u) :=
 ⟨h.below.setCell hg u,fun k hk=>(Below.heap_setCell c p u k (hX k hk)).trans (h.same k hk)⟩
theorem KeepB.grow {B:Nat} {X:Nat→Prop} {a c w:World} (h:KeepB B X a c) (hB:B≤c.heap.size) (hX:∀ k,X k→k<c.heap.size) (hg:Grow c w):KeepB B X a w :=
 h.trans ⟨hg.below B hB (fun _ h=>h.elim),fun k hk=>hg.block k (hX k hk) (fun h=>h)⟩
theorem Boxed.away {W:World} {B:Nat} {t:TypeId} {v:Value} (h:Boxed W B t v) (p:Addr) (hne:B≠p.block) (u:Value):Boxed (W.setCell p u) B t v:=(Below.heap_setCell W p u B hne).trans h
theorem zmD {b:Nat} {p:PP} {d:Par} {G:Nat→Prop} {w:World} (h:PAt b p d G w) (i:Nat) (hi:i<chunksN d.sz) (hgb:getB d.known i=false) (A:Option Addr) (c:Nat) (bs:List Int) (hb:OkB bs) (hl:(bs.length:Int)=sizeN d.sz i) (FS:Nat→Prop) (hS:Foot (SliceR 1 (.slice A bs.length c) bs.length (u8s bs)) w FS) (hF:∀ k,FS k→k≠p.wb) :
    Calls Tryz.prog 106 #[.pointer (some ⟨b,0,none⟩),.int .i64 (i:Nat),.slice A bs.length c] w fun e w'=>e=.returned (.bool true)∧∃ p' G',p'.wb=p.wb∧PAt b p' { d with words:=setN d.words i bs (bs.length/8),known:=setB d.known i } G' w'∧Keep (fun k=>k=b∨k=p.wb) w w'∧∀ k,G' k→G k∨w.heap.size≤k:=by
 obtain ⟨c0,c1,c2,c3,c4,c5,cf⟩:=zQA h.cell
 have hq:chunksN d.sz≤512:=by have:=zM h.ok.fit;unfold chunksN;omega
 have hi0:¬ ((i:Int)<0):=by omega
 have hi1:¬ ((chunksN d.sz:Int)≤(i:Int)):=by omega
 have hi2:decide (chunksN d.sz≤i)=false:=decide_eq_false (by omega)
 have hne:((bs.length:Int) != sizeN d.sz i)=false:=by rw [hl];simp
 have HP:=LH h
 have HSS:=LH hS
 have HGB:=LH hgb
 have HB:=LH hb
 have HL:=LH hl
 have HI:=LH hi
 have HFS:=LH hF
 clear h hS hgb hb hl hF hi
 refine (callsIn_wide (n:=3)).1 ?_
 refine callsIn_of_wp_marks Tryz.func106 rfl trivial ?_ rfl
 simp only [Tryz.ntmps106,List.size_toArray,List.length_cons,List.length_nil,Nat.reduceAdd,Nat.reduceSub,Array.replicate_succ,Array.replicate_zero,List.push_toArray,List.append_toArray,List.nil_append,List.cons_append]
 gi_wp2_with (refine ⟨trivial,?_⟩;gi_at_call 64;refine (callsIn_wide.2 (zg d.session d.sum p.As p.cs d.sz _ HP.out.ro.now.1 HP.out.ok.fit)).mono ?_;rintro e w1 ⟨rfl,hg⟩;refine Hid.out ?_)
 have HG:=LH hg
 refine LH ?_
 replace HP:=LH (HP.out.grow hg)
 clear hg c0 c1 c2 c3 c4 c5 cf
 obtain ⟨c0,c1,c2,c3,c4,c5,cf⟩:=zQA HP.out.cell
 gi_wp2_with (refine ⟨trivial,?_⟩;gi_at_call 168;refine (callsIn_wide.2 (zeD d.session d.sum p.As p.cs d.sz _ HP.out.ro.now.1 HP.out.ok.fit i HI.out)).mono ?_;rintro e w2 ⟨rfl,hg⟩;refine Hid.out ?_)
 replace HG:=LH (HG.out.grow hg)
 refine LH ?_
 replace HP:=LH (HP.out.grow hg)
 clear hg c0 c1 c2 c3 c4 c5 cf
 obtain ⟨c0,c1,c2,c3,c4,c5,cf⟩:=zQA HP.out.cell
 have hbg:=zhA p.Ak p.ck d.known HP.out.ok.known i (by omega) w2 HP.out.ro.now.2
 rw [HGB.out] at hbg
 have HBG:=LH hbg
 clear hbg
 have hwl:=HP.out.ok.wlen
 have hch:8*i<d.words.length:=by
  have:=HI.out
  unfold chunksN at this
  omega
 have hn9:d.words.length≤4096:=by have:=zM HP.out.ok.fit;omega
 have hcw:d.words.length≤p.cw:=zjL HP.out.row
 have hcw2:¬ (p.cw=i*8):=by omega
 have hwi:IntKind.i64.wrap ((i:Int)*8)=(i:Int)*8:=IntWalk.i64_in _ (by omega)
 have hin:0≤(i:Int)*8∧(i:Int)*8≤d.words.length:=by omega
 have HCH:=LH hch
 clear hwl hch
 gi_wp2_with (refine ⟨trivial,?_⟩;gi_at_call 82;refine (callsIn_wide.2 HBG.out).mono ?_;rintro e w3 ⟨rfl,rfl⟩)
 gi_wp2_with (refine ⟨trivial,?_⟩;gi_at_call 169;refine (callsIn_wide.2 (zwF A bs.length c 8 (by omega) _)).mono ?_;rintro e w' ⟨rfl,rfl⟩)
 obtain ⟨ad,rfl⟩:∃ ad,A=some ad:=by
  have h9:0<bs.length:=by
   have:=HL.out
   have:=HCH.out
   have:=HP.out.ok.wlen
   unfold sizeN at *
   omega
  obtain ⟨A',c',e,_,_,hA,_⟩:=HSS.out.now
  injection e with e1 e2 e3
  subst e1;subst e3
  cases A with
  | none=>have:=hA rfl;omega
  | some ad=>exact ⟨ad,rfl⟩
 have hbc:bs.length≤c:=by
  obtain ⟨A',c',e,hc,_,hA,_⟩:=HSS.out.now
  injection e with e1 e2 e3
  subst e3
  exact hc
 have hm8:chN bs.length 8≤d.words.length-i*8∧bs.length≤64∧chN bs.length 8=bs.length/8:=by
  have:=HL.out
  have:=HCH.out
  have:=HP.out.ok.wlen
  unfold sizeN chN at *
  omega
 have bT:Boxed (w2.alloc (.cells #[.slice (some ⟨p.wb,i*8,none⟩) (d.words.length-i*8) (p.cw-i*8)] 111)) w2.heap.size 111 (.slice (some ⟨p.wb,i*8,none⟩) (d.words.length-i*8) (p.cw-i*8)):=Boxed.new _ _ _
 have bK:=Boxed.new (w2.alloc (.cells #[.slice (some ⟨p.wb,i*8,none⟩) (d.words.length-i*8) (p.cw-i*8)] 111)) 3 (.int .i64 0)
 have bS:=Boxed.new ((w2.alloc (.cells #[.slice (some ⟨p.wb,i*8,none⟩) (d.words.length-i*8) (p.cw-i*8)] 111)).alloc (.cells #[qJ] 3)) 23 (.slice (some ad) bs.length c)
 have bN:=Boxed.new (((w2.alloc (.cells #[.slice (some ⟨p.wb,i*8,none⟩) (d.words.length-i*8) (p.cw-i*8)] 111)).alloc (.cells #[qJ] 3)).alloc (.cells #[.slice (some ad) bs.length c] 23)) 3 (.int .i64 8)
 simp only [World.size_alloc] at bK bS bN
 have hG0:Grow w2 ((((w2.alloc (.cells #[.slice (some ⟨p.wb,i*8,none⟩) (d.words.length-i*8) (p.cw-i*8)] 111)).alloc (.cells #[qJ] 3)).alloc (.cells #[.slice (some ad) bs.length c] 23)).alloc (.cells #[.int .i64 8] 3)):=((((Keep.refl NoB w2).alloc _).alloc _).alloc _).alloc _
 have x1:=((bT.alloc (.cells #[qJ] 3)).alloc (.cells #[.slice (some ad) bs.length c] 23)).alloc (.cells #[.int .i64 8] 3)
 have x2:=(bK.alloc (.cells #[.slice (some ad) bs.length c] 23)).alloc (.cells #[.int .i64 8] 3)
 have x3:=bS.alloc (.cells #[.int .i64 8] 3)
 obtain ⟨W0,hW0⟩:∃ W0,((((w2.alloc (.cells #[.slice (some ⟨p.wb,i*8,none⟩) (d.words.length-i*8) (p.cw-i*8)] 111)).alloc (.cells #[qJ] 3)).alloc (.cells #[.slice (some ad) bs.length c] 23)).alloc (.cells #[.int .i64 8] 3))=W0:=⟨_,rfl⟩
 have hsz:W0.heap.size=w2.heap.size+4:=by rw [← hW0];simp
 rw [hW0] at bN x1 x2 x3 hG0 ⊢
 clear hW0 bT bK bS
 have hr0:=(HP.out.grow hG0).row
 have hlt2:=HP.out.lt
 refine wpIn_rangeFunc_ownG rfl (show 1≤3 by omega) (gf:=220) (lb:=#[.pointer (some ⟨w2.heap.size+1+1,0,none⟩),.pointer (some ⟨w2.heap.size+1+1+1,0,none⟩)]) rfl trivial (enters_of Tryz.func220 (by kernel_rfl) rfl)
  (zxF Fence.wide _ trivial rfl (by omega) (w2.heap.size+1+1) (w2.heap.size+1+1+1) 0 bs.length 8 (by omega) (by omega) (by omega) (some ad) c hbc (by simp) W0 x3 bN) (fun h k=>h.trans k) (KeepB.put (by omega) (by intro k hk;omega)) (Below.refl _ _) (fun _=>rfl)
  (fun pre W=>Boxed W w2.heap.size 111 (.slice (some ⟨p.wb,i*8,none⟩) (d.words.length-i*8) (p.cw-i*8))∧Boxed W (w2.heap.size+1) 3 (.int .i64 pre.length)∧W.ownsRow 0 22 1 (.slice (some ⟨p.wb,0,none⟩) d.words.length p.cw) d.words.length (u64s (setP d.words i bs pre))∧Keep (fun k=>k=p.wb) w2 W∧W0.heap.size≤W.heap.size)
  (fun _ _ _=>False)
  (fun s W W' row hs hg hr=>⟨hs.1.kept hg (fun e=>by have:=(hr _ e.symm).1;omega),hs.2.1.kept hg (fun e=>by have:=(hr _ e.symm).1;omega),hs.2.2.1.kept hg (.inr (fun e=>by have:=(hr p.wb e.symm).1;have:=hlt2.2;omega)),hs.2.2.2.1.grown hg (fun k hk=>.inr (by have:=(hr k hk).1;omega)),Nat.le_trans hs.2.2.2.2 hg.size⟩)
  (fun _ _ _ _ _ hs _ _=>hs)
  ⟨x1,x2,hr0,hG0.mono (fun _ h=>h.elim),Nat.le_refl _⟩
  (fun x=>{ tmps:=#[.pointer (some ⟨b,0,none⟩),.int .i64 i,.slice (some ad) bs.length c,undef,undef,undef,.bool false,.pointer (some ⟨w2.heap.size,0,none⟩),.pointer (some ⟨w2.heap.size+1,0,none⟩),chV (some ad) bs.length 8 x,undef,.pointer (some ⟨b,0,none⟩),.bool false,.bool false,.int .i64 i,.bool false,.bool false,.bool false,.int .i64 i,.pointer (some ⟨b,0,none⟩),.pointer (some ⟨b,0,none⟩),.pointer (some ⟨b,0,none⟩),.agg #[.int .u64 d.session,.slice p.As d.sz.length p.cs,.int .u32 (d.sum:Nat)],.int .i64 (chunksN d.sz:Nat),.bool false,.bool false,.bool false,.slice (some ad) bs.length c,.int .i64 bs.length,.pointer (some ⟨b,0,none⟩),.pointer (some ⟨b,0,none⟩),.pointer (some ⟨b,0,none⟩),.agg #[.int .u64 d.session,.slice p.As d.sz.length p.cs,.int .u32 (d.sum:Nat)],.int .i64 i,.int .i64 (sizeN d.sz i),.bool false,.bool false,.pointer (some ⟨b,0,none⟩),.pointer (some ⟨b,0,none⟩),.pointer (some ⟨b,3,none⟩),.pointer (some ⟨b,5,none⟩),.slice p.Ak d.known.length p.ck,.int .i64 i,.bool false,.pointer (some ⟨b,0,none⟩),.pointer (some ⟨b,0,none⟩),.pointer (some ⟨b,3,none⟩),.pointer (some ⟨b,4,none⟩),.slice (some ⟨p.wb,0,none⟩) d.words.length p.cw,.int .i64 i,.int .i64 ((i:Int)*8),.slice (some ⟨p.wb,i*8,none⟩) (d.words.length-i*8) (p.cw-i*8),.slice (some ad) bs.length c,.func (.func 220) #[] #[.pointer (some ⟨w2.heap.size+1+1,0,none⟩),.pointer (some ⟨w2.heap.size+1+1+1,0,none⟩)],chV (some ad) bs.length 8 x,undef,undef,undef,undef,undef,undef,undef,undef,undef,undef,undef,undef,undef,undef,undef,undef,undef,undef,undef,undef],defers:=[] }) ?assign ?body ?done ?stop
 case assign =>
  intro l' x W K hK
  gi_wp2
  exact hK
 case body =>
  rintro l' pre x W ⟨hT,hK,hrow,hkp,hWs⟩ hlt
  have q1:=hT.cell
  have f1:=hT.frozen
  have q2:=hK.cell
  have f2:=hK.frozen
  have hP:=((HSS.out.grow HG.out).keep hkp (fun k hk e=>HFS.out k hk e)).now.piece 8 x
  have hlw:pre.length<d.words.length-i*8:=by omega
  have hlw2:i*8+pre.length<(setP d.words i bs pre).length:=by rw [zEC];omega
  have hrow2:W.ownsRow 0 22 1 (.slice (some ⟨p.wb,0,none⟩) (setP d.words i bs pre).length p.cw) (setP d.words i bs pre).length (u64s (setP d.words i bs pre)):=by rw [zEC];exact hrow
  have hget:=zNI (ad.add (x*8)) (chL bs.length 8 x) (pieceL bs 8 x) (HB.out.piece 8 x) (by rw [zHA];unfold chL;omega) W (by have h:=hP;rw [zHA] at h ⊢;exact h)
  rw [zHA] at hget
  have HGT:=LH hget
  have HT:=LH hT
  have HK:=LH hK
  have HR:=LH hrow2
  have HKP:=LH hkp
  have HLW:=LH (And.intro hlw hlw2)
  have hpl:IntKind.i64.wrap ((pre.length:Int)+1)=(pre.length:Int)+1:=IntWalk.i64_in _ (by omega)
  have h2:1≤3-1-1:=by omega
  clear hT hK hrow hrow2 hkp hP hget hlw2
  gi_wp2_with (refine ⟨trivial,?_⟩;gi_at_call 170;refine (CallsIn.inRound l' (callsIn_wide.2 HGT.out)).mono ?_;rintro e w5 ⟨rfl,hg5⟩;refine Hid.out ?_)
  have HG5:=LH hg5
  refine LH ?_
  clear q1 f1 q2 f2 hg5
  have hrow5:=zF HR.out HG5.out (fun _ _ h=>h)
  obtain ⟨ad2,e2,q3⟩:=SliceR.int_at (k:=.u64) (SliceR.of_own hrow5) (i*8+pre.length) HLW.out.2
  injection e2 with e2
  subst e2
  rw [zyC] at q3
  have f3:w5.frozen? ⟨p.wb,i*8+pre.length,none⟩=false:=hrow5.frozenAt _
  have hK5:Boxed w5 (w2.heap.size+1) 3 (.int .i64 pre.length):=Grow.heap HG5.out HK.out
  have hT5:Boxed w5 w2.heap.size 111 _:=Grow.heap HG5.out HT.out
  have hlp:=hlt2.2
  have hst:=hrow5.stored (i*8+pre.length) (.int .u64 (leW (pieceL bs 8 x)))
  rw [zYK,← zrE] at hst
  have hK6:=Boxed.away hK5 ⟨p.wb,i*8+pre.length,none⟩ (by show w2.heap.size+1≠p.wb;omega) (.int .u64 (leW (pieceL bs 8 x)))
  have q2:=hK6.cell
  have f2:=hK6.frozen
  have HK6:=LH hK6
  have HT6:=LH (Boxed.away hT5 ⟨p.wb,i*8+pre.length,none⟩ (by show w2.heap.size≠p.wb;omega) (.int .u64 (leW (pieceL bs 8 x))))
  have HST:=LH hst.1
  have hsW:=HT.out.lt
  have hsK:=HK.out.lt
  clear hst hK6 hT5 hK5 hrow5
  gi_wp2
  refine ⟨((((show KeepsOthers W w5 from ⟨HG5.out.size,fun k o hk _=>Grow.heap HG5.out hk⟩).trans (KeepsOthers.setCell _ _ _)).trans (KeepsOthers.setCell _ _ _))).from _,(((KeepB.refl _ _ _).grow (Nat.zero_le _) (fun k hk=>by omega) HG5.out).setAt (p:=⟨p.wb,i*8+pre.length,none⟩) (Nat.zero_le _) (fun k hk=>by show k≠p.wb;omega) _).setAt (p:=⟨w2.heap.size+1,0,none⟩) (Nat.zero_le _) (fun k hk=>by show k≠w2.heap.size+1;omega) _,?_,?_,?_,?_,?_⟩
  ·exact HT6.out.other (by omega) _
  ·rw [List.length_append,List.length_singleton]
   exact HK6.out.set _
  ·have h9:=zF HST.out ((Keep.refl (fun j=>j=w2.heap.size+1) _).setCell (p:=⟨w2.heap.size+1,0,none⟩) (.inl rfl) (.int .i64 ((pre.length:Int)+1))) (fun k hk e=>by cases hk;have e2:p.wb=w2.heap.size+1:=e;omega)
   rw [zEC] at h9
   exact h9
  ·exact ((HKP.out.grow HG5.out).setCell (p:=⟨p.wb,i*8+pre.length,none⟩) (.inl rfl) _).setCell (p:=⟨w2.heap.size+1,0,none⟩) (.inr (by show w2.heap.size≤w2.heap.size+1;omega)) _
  ·have:=HG5.out.size
   simp only [World.size_setCell]
   omega
 case done =>
  rintro D ys W hD rfl ⟨hT,hK,hrow,hkp,hWs⟩ hDf
  rw [zsE,hm8.2.2] at hrow
  have hcell:=(hkp.block b hlt2.1 HP.out.dis.1).trans HP.out.cell
  obtain ⟨c0,c1,c2,c3,c4,c5,cf⟩:=zQA hcell
  have hro:=HP.out.ro.keep hkp (fun k hk e=>HP.out.dis.2.2 (e ▸ hk))
  have hbs:=zII p.Ak p.ck d.known HP.out.ok.known (by rw [HP.out.ok.klen];omega) i (by omega) W hro.now.2
  have HBS:=LH hbs
  have HR:=LH hrow
  have HKP:=LH hkp
  have HCL:=LH hcell
  have HRO:=LH hro
  have HDF:=LH hDf
  clear hT hK hrow hkp hcell hro hbs hDf
  gi_wp2_with (refine ⟨trivial,?_⟩;gi_at_call 121;refine (callsIn_wide.2 HBS.out).mono ?_;rintro e w6 ⟨A6,c6,rfl,hg6,ho6⟩;refine Hid.out ?_)
  have HG6:=LH hg6
  have HO6:=LH ho6
  refine LH ?_
  have hcell6:=Grow.heap HG6.out HCL.out
  clear c0 c1 c2 c3 c4 c5 cf hg6 ho6
  obtain ⟨c0,c1,c2,c3,c4,c5,cf⟩:=zQA hcell6
  have HCL6:=LH hcell6
  have hbD:b≠D:=by have:=hlt2.1;omega
  have hD2:(w6.setCell ⟨b,5,none⟩ (.slice A6 (setB d.known i).length c6)).heap[D]? = some (.deferred (some [])):=(Below.heap_setCell w6 ⟨b,5,none⟩ _ D (fun e=>hbD e.symm)).trans (Grow.heap HG6.out HDF.out)
  have HD2:=LH hD2
  clear hcell6 hD2
  gi_wp2
  have hkb:Keep (fun k=>k=b) w6 (w6.setCell ⟨b,5,none⟩ (.slice A6 (setB d.known i).length c6)):=(Keep.refl (fun k=>k=b) w6).setCell (p:=⟨b,5,none⟩) (.inl rfl) _
  have hcf:(w6.setCell ⟨b,5,none⟩ (.slice A6 (setB d.known i).length c6)).heap[b]? = some (.cells #[.int .u64 d.session,.slice p.As d.sz.length p.cs,.int .u32 (d.sum:Nat),.slice p.As d.sz.length p.cs,.slice (some ⟨p.wb,0,none⟩) d.words.length p.cw,.slice A6 (setB d.known i).length c6] 247 (0,0)):=by
   have h0:=HCL6.out
   simp only [World.setCell,Array.getElem?_modify]
   simp [h0]
  have hkD:Keep (fun k=>k=D) (w6.setCell ⟨b,5,none⟩ (.slice A6 (setB d.known i).length c6)) ((w6.setCell ⟨b,5,none⟩ (.slice A6 (setB d.known i).length c6)).putObj D (.deferred none)):=(Keep.refl _ _).grown (grownBy_putObj' _ D _) (fun k hk=>.inl (by cases hk;rfl))
  have hd:=HP.out.dis
  have hW6:=HG6.out.size
  have hKW:Keep (fun k=>k=b∨k=p.wb) w W:=(HG.out.mono (T:=fun k=>k=b∨k=p.wb) (fun _ h=>h.elim)).trans HKP.out (fun k hk=>.inl (.inr hk))
  have hPf:PAt b { p with Ak:=A6,ck:=c6 } { d with words:=setN d.words i bs (bs.length/8),known:=setB d.known i } (fun k=>G k∨(Value.slice A6 (setB d.known i).length c6).ownBlock=some k) (w6.setCell ⟨b,5,none⟩ (.slice A6 (setB d.known i).length c6)):=by
   refine ⟨?_,?_,?_,⟨hd.1,?_,?_⟩,?_⟩
   ·rw [zNA];exact hcf
   ·rw [zNA]
    exact zF (zF HR.out HG6.out (fun _ _ h=>h)) hkb (fun k hk e=>by cases hk;exact hd.1 e.symm)
   ·exact (((HRO.out.grow HG6.out).imp (fun u h=>h.1)).keep hkb (fun k hk e=>hd.2.1 (e ▸ hk))).and ((Foot.of_own HO6.out).keep hkb (fun k hk e=>by have h1:=(HO6.out.lt k hk).1;have h2:=hlt2.1;have e2:k=b:=e;omega))
   ·rintro (h | h)
    ·exact hd.2.1 h
    ·have h1:=(HO6.out.lt b h).1;have h2:=hlt2.1;omega
   ·rintro (h | h)
    ·exact hd.2.2 h
    ·have h1:=(HO6.out.lt p.wb h).1;have h2:=hlt2.2;have:=hlt2.1;omega
   ·have hok:=HP.out.ok
    exact ⟨hok.s0,hok.s1,hok.sum,hok.fit,by show ((setN d.words i bs (bs.length/8)).length:Int)=_;rw [zNA];exact hok.wlen,zjH hok.win HB.out i _,hok.known.set i,by show (setB d.known i).length=_;rw [zCC];exact hok.klen⟩
  refine ⟨by simp,.inl ⟨_,_,rfl,run_takeDeferred HD2.out,?_⟩⟩
  refine ⟨_,results_tmp rfl _ _ _,rfl,{ p with Ak:=A6,ck:=c6 },_,rfl,hPf.keep hkD (fun e=>hbD e) (fun e=>by have e2:p.wb=D:=e;have:=hlt2.2;omega) (fun k hk e=>?_),?_,?_⟩
  ·have e2:k=D:=e
   rcases hk with h | h
   ·have:=HP.out.ro.lt h;omega
   ·have h1:=(HO6.out.lt k h).1;have h3:=(gE HDF.out).1;omega
  ·exact (((hKW.grow HG6.out).trans hkb (fun k hk=>.inl (.inl hk))).trans hkD (fun k hk=>.inr (by have e2:k=D:=hk;have:=HG.out.size;omega)))
  ·rintro k (h | h)
   ·exact .inl h
   ·exact .inr (by have h1:=(HO6.out.lt k h).1;have:=hKW.size;omega)
 case stop =>
  rintro D c' pre W _ _ h _
  exact h.elim
end Go.Proofs.YtfkcpaahdlkcdaaGreat
namespace Go.Proofs.YtfkcpaahdlkcdaaGreat
open Go.RowKit
theorem zbE {P:Program} {ops:Array Oper} {Q:Exit→Act→World→Prop} {S:Nat→Prop} {ds:List Nat} {md:Region.Mode} {a:Act} {w:World} {n m:Nat} {l:Array Bool} (ord acts reads:List Nat) (l':Array Bool)
    (hc:(Region.noSelect ops&&ordOkC md ops acts reads ds (fun k=>k==l') ord l&&(n+ord.length==m))=true)
    (h:wpOrdC S P ops Q (wpAnyG S P md ops Q ds n l') acts reads ds ord a w):wpAnyG S P md ops Q ds m l a w:=by
 simp only [Bool.and_eq_true,beq_iff_eq] at hc
 have:=zOA (n:=n) hc.1.1 (fun k a w hl hq=>by rw [beq_iff_eq.1 hl];exact hq) ord _ a w hc.1.2 h
 rwa [hc.2] at this
def chsP (a:List (List Int)):List (List Int):=(List.range (chunksN (szs a))).map (chunkP a)
def newD (session:Int) (a:List (List Int)) (win back retry quota:Int):Snd :=
 ⟨session,szs a,sumP session a,chsP a,win,back,retry,quota,1,0,makeB (pagesN (szs a)+chunksN (szs a)),List.replicate (pagesN (szs a)+chunksN (szs a)) 0,[]⟩
theorem zZK (session:Int) (a:List (List Int)):∀ x∈maniB session a,0≤x∧x≤255:=fun x hx=>by
 unfold maniB at hx
 rcases List.mem_append.1 hx with hx | hx
 ·rcases List.mem_append.1 hx with hx | hx
  ·exact zAB _ _ x hx
  ·obtain ⟨y,_,hy⟩:=List.mem_flatMap.1 hx
   exact zAB _ _ x hy
 ·exact ztC a x hx
namespace NewI
variable {g:Nat} {W:World} {session:Int} {a:List (List Int)} {win back retry quota:Int} {q:Nat} {As:Option Addr} {cs:Nat} {Fq G1:Nat→Prop} {rows:List Value} {Ac:Option Addr} {cc:Nat} {Gc:Nat→Prop} {aa tt:Value} {w w':World}
end NewI
end Go.Proofs.YtfkcpaahdlkcdaaGreat
namespace Go.Proofs.YtfkcpaahdlkcdaaGreat
open Go.RowKit
theorem zAG (k j:Int) (w:World) (hk:0≤k∧k≤255) (hj:0≤j∧j≤255) :
    Calls Tryz.prog 14 #[.int .u8 k,.int .u8 j] w fun e w'=>e=.returned (.agg #[.int .i64 (1+k%5),.int .i64 (1+k/16),.int .i64 (1+j%40),.int .i64 1048576])∧Grow w w':=by
 have hw1:IntKind.i64.wrap (1+k%5)=1+k%5:=IntWalk.i64_in _ (by omega)
 have hw2:IntKind.i64.wrap (1+k/16)=1+k/16:=IntWalk.i64_in _ (by omega)
 have hw3:IntKind.i64.wrap (1+j%40)=1+j%40:=IntWalk.i64_in _ (by omega)
 have hb1:0≤k%5∧k%5≤4:=by omega
 have hb2:0≤k/16∧k/16≤15:=by omega
 have hb3:0≤j%40∧j%40≤39:=by omega
 obtain ⟨k0,k1⟩:=hk
 obtain ⟨j0,j1⟩:=hj
 go_enter Tryz.func14,Tryz.ntmps14
 go_wp2
 refine bodyPost_ret (v:=.agg #[.int .i64 (1+k%5),.int .i64 (1+k/16),.int .i64 (1+j%40),.int .i64 1048576]) ?_ rfl ⟨rfl,(Keep.refl NoB w).alloc _⟩
 rw [zO rfl];go_simp
def kD:Snd:=newD 5 [[0]] 1 1 3 0
theorem zeK (l:List Int) (i:Nat) (x:Int):(u64s l).set i (.int .u64 x)=u64s (l.set i x):=by
 unfold u64s;exact List.map_set.symm
theorem zRC (a:List (List Int)) (A:Option Addr) (c:Nat) (size:Int) (full:Bool) (seg i:Nat) (x:Int) (hs:seg<a.length) (hi:i<a[seg].length) (hla:a.length≤1000000) (hls:a[seg].length≤1000000) (w:World) {F:Nat→Prop} (hF:Foot (RowsU a (.slice A a.length c)) w F) :
    Calls Tryz.prog 194 #[.agg #[.slice A a.length c,.int .i64 size,.bool full],.int .i64 seg,.int .i64 i,.int .u64 x] w fun e w'=>∃ A' c',e=.returned (.agg #[.slice A' a.length c',.int .i64 size,.bool full])∧Grow w w'∧Foot (RowsU (a.set seg (a[seg].set i x)) (.slice A' a.length c')) w' (NewF F w w'):=by
 obtain ⟨vs,hvF,hcs⟩:=RowsU.headsF hF
 have hvs:=hvF.now
 have HVF:=LH hvF
 have hh:=zU w (.cells #[.slice A a.length c,.int .i64 size,.bool full] 197) (.cells #[qI,qJ,qL] 197)
 have HB0:=LH hh.1
 have HB1:=LH hh.2.1
 have HG:=LH hh.2.2
 have HV:=LH hvs
 have HCS:=LH hcs
 have hlt':(seg:Int)<a.length:=by omega
 have hit':(i:Int)<a[seg].length:=by omega
 obtain ⟨A1,c1,hv1,hsl,_⟩:=hvs.2 seg hs
 have HSL:=LH hsl
 have HV1:=LH hv1
 obtain ⟨n,hn⟩:∃ n,a.length=n:=⟨_,rfl⟩
 obtain ⟨m,hm⟩:∃ m,a[seg].length=m:=⟨_,rfl⟩
 have HN:=LH hn
 have HM:=LH hm
 have HSRC:=LH (RowsR.src (c:=c) (hvs.grow hh.2.2) (fun j u hu=>by
  obtain ⟨ad,e1,e2⟩:=hcs j u hu
  exact ⟨ad,e1,hh.2.2.cell e2 (fun h=>h)⟩))
 rw [hn] at HB0 HB1 HG HSRC hla hlt' ⊢
 rw [hm] at hls hit'
 clear hF hvF hh hvs hcs hsl hv1 hn hm
 go_enter Tryz.func194,Tryz.ntmps194
 go_wp2_with (at_builtin;refine zL _ rfl _ _ 29 29 rfl w.heap.size 111 (.slice none 0 0) 1 24 zBB zRB rfl (.slice none 0 0) 0 [] rfl (.slice A n c) n vs rfl ?_ ?c0 ?c1 ?c2 ?c3 ?c4;intro v' w2 hap;refine Hid.out ?_)
 case c0=>exact World.ownsRow_nil _ _ _ _
 case c1=>exact HSRC.out
 case c2=>simp only [maxLen];omega
 case c3=>omega
 case c4=>simp;omega
 refine LH ?_
 have ho:=hap.own
 simp only [Nat.zero_add,List.nil_append] at ho
 have hg2:=HG.out.grown hap.grew (by simp [Value.ownBlock])
 have hgx:=(Keep.refl NoB ((w.alloc (.cells #[.slice A n c,.int .i64 size,.bool full] 197)).alloc (.cells #[qI,qJ,qL] 197))).grown hap.grew (by simp [Value.ownBlock])
 have hb0:=Grow.heap hgx HB0.out
 have hb1:=Grow.heap hgx HB1.out
 obtain ⟨r1,k1,e1,hr1,_,hcells1⟩:=zMA ho (by omega)
 subst e1
 have hr1b:=zu hap r1 hr1
 have q1:w2.cell? ⟨r1,seg,none⟩=some (.slice A1 m c1):=by
  have:=hcells1 seg _ HV1.out
  rw [HM.out] at this
  simpa using this
 have hr1n:w.heap.size+2≤r1:=by
  rcases hr1b with h | h
  ·simp [Value.ownBlock] at h
  ·have h2:r1=w.heap.size+1+1:=by simpa using h
   omega
 have hsrc2:Src Tryz.prog 1 111 (.slice A1 m c1) m (u64s a[seg]) w2:=by
  have:=(HSL.out.grow hg2).src (tx:=111) zx (zsA _)
  rw [HM.out] at this
  exact this
 have HS2:=LH hsrc2
 have HO:=LH ho
 have HG2:=LH hg2
 have HB0':=LH hb0
 have HB1':=LH hb1
 clear hap ho hg2 hgx hb0 hb1 hcells1 hr1 hr1b hsrc2
 clear HSRC HB0 HB1 HG
 go_wp2_with (at_builtin;refine zL _ rfl _ _ 111 111 rfl w2.heap.size 22 (.int .u64 0) 1 8 zx zj rfl (.slice none 0 0) 0 [] rfl (.slice A1 m c1) m (u64s a[seg]) rfl ?_ ?d0 ?d1 ?d2 ?d3 ?d4;intro v' w3 hap;refine Hid.out ?_)
 case d0=>exact World.ownsRow_nil _ _ _ _
 case d1=>exact HS2.out
 case d2=>simp only [maxLen];omega
 case d3=>omega
 case d4=>simp
 refine LH ?_
 have ho:=hap.own
 simp only [Nat.zero_add,List.nil_append] at ho
 have hgx:=(Keep.refl NoB w2).grown hap.grew (by simp [Value.ownBlock])
 obtain ⟨r2,k2,e2,hr2,_,hcells2⟩:=zMA ho (by omega)
 subst e2
 have hr2b:w2.heap.size≤r2:=(ho.lt r2 hr2).1
 have hr1l:r1<w2.heap.size:=(HO.out.lt r1 rfl).2
 have hl64:(u64s a[seg]).length=m:=by rw [← HM.out];simp [u64s]
 obtain ⟨u0,q2⟩:∃ u0,w3.cell? ⟨r2,i,none⟩=some u0:=⟨_,by simpa using hcells2 i _ (List.getElem?_eq_getElem (by omega))⟩
 have q2f:w3.frozen? ⟨r2,i,none⟩=false:=ho.frozenAt _
 have hst2:=ho.stored i (.int .u64 x)
 rw [zeK] at hst2
 have hO3:=zF (zF HO.out hgx (fun _ _ h=>h)) (zV r2 i w3 (.int .u64 x)) (fun k hk e=>by cases hk;exact absurd e (show ¬ r1=r2 by omega))
 have q3:(w3.setCell ⟨r2,i,none⟩ (.int .u64 x)).cell? ⟨r1,seg,none⟩=some (.slice A1 m c1):=(zV r2 i w3 (.int .u64 x)).cell (hgx.cell q1 (fun h=>h)) (by show ¬ r1=r2;omega)
 have q3f:(w3.setCell ⟨r2,i,none⟩ (.int .u64 x)).frozen? ⟨r1,seg,none⟩=false:=hO3.frozenAt _
 have hst1:=hO3.stored seg (.slice (some ⟨r2,0,none⟩) m k2)
 have hs2':=zF hst2.1 (zV r1 seg _ (.slice (some ⟨r2,0,none⟩) m k2)) (fun k hk e=>by cases hk;exact absurd e (show ¬ r2=r1 by omega))
 have HG4:Hid (Grow w ((w3.setCell ⟨r2,i,none⟩ (.int .u64 x)).setCell ⟨r1,seg,none⟩ (.slice (some ⟨r2,0,none⟩) m k2))) :=
  LH (((HG2.out.grow hgx).setCell (p:=⟨r2,i,none⟩) (.inr (by show w.heap.size≤r2;omega)) _).setCell (p:=⟨r1,seg,none⟩) (.inr (by show w.heap.size≤r1;omega)) _)
 have hK5:Keep (fun k=>k=w.heap.size∨k=w.heap.size+1) ((w3.setCell ⟨r2,i,none⟩ (.int .u64 x)).setCell ⟨r1,seg,none⟩ (.slice (some ⟨r2,0,none⟩) m k2)) ((((((w3.setCell ⟨r2,i,none⟩ (.int .u64 x)).setCell ⟨r1,seg,none⟩ (.slice (some ⟨r2,0,none⟩) m k2)).setCell ⟨w.heap.size,0,none⟩ (.slice (some ⟨r1,0,none⟩) n k1)).setCell ⟨w.heap.size+1,0,none⟩ (.slice (some ⟨r1,0,none⟩) n k1)).setCell ⟨w.heap.size+1,1,none⟩ (.int .i64 size)).setCell ⟨w.heap.size+1,2,none⟩ (.bool full)) :=
  ((((Keep.refl (fun k=>k=w.heap.size∨k=w.heap.size+1) ((w3.setCell ⟨r2,i,none⟩ (.int .u64 x)).setCell ⟨r1,seg,none⟩ (.slice (some ⟨r2,0,none⟩) m k2))).setCell (p:=⟨w.heap.size,0,none⟩) (.inl (.inl rfl)) _).setCell (p:=⟨w.heap.size+1,0,none⟩) (.inl (.inr rfl)) _).setCell (p:=⟨w.heap.size+1,1,none⟩) (.inl (.inr rfl)) _).setCell (p:=⟨w.heap.size+1,2,none⟩) (.inl (.inr rfl)) _
 have HG5:Hid (Grow w ((((((w3.setCell ⟨r2,i,none⟩ (.int .u64 x)).setCell ⟨r1,seg,none⟩ (.slice (some ⟨r2,0,none⟩) m k2)).setCell ⟨w.heap.size,0,none⟩ (.slice (some ⟨r1,0,none⟩) n k1)).setCell ⟨w.heap.size+1,0,none⟩ (.slice (some ⟨r1,0,none⟩) n k1)).setCell ⟨w.heap.size+1,1,none⟩ (.int .i64 size)).setCell ⟨w.heap.size+1,2,none⟩ (.bool full))):=LH (HG4.out.trans hK5 (fun j hj=>.inr (by omega)))
 have hz:=zI (Grow.heap hgx HB0'.out)
 have hy:=zI (Grow.heap hgx HB1'.out)
 obtain ⟨z0,z1,z2,zf⟩:=hz
 obtain ⟨y0,y1,y2,yf⟩:=hy
 have HRR:Hid (Foot (RowsU (a.set seg (a[seg].set i x)) (.slice (some ⟨r1,0,none⟩) n k1)) ((((((w3.setCell ⟨r2,i,none⟩ (.int .u64 x)).setCell ⟨r1,seg,none⟩ (.slice (some ⟨r2,0,none⟩) m k2)).setCell ⟨w.heap.size,0,none⟩ (.slice (some ⟨r1,0,none⟩) n k1)).setCell ⟨w.heap.size+1,0,none⟩ (.slice (some ⟨r1,0,none⟩) n k1)).setCell ⟨w.heap.size+1,1,none⟩ (.int .i64 size)).setCell ⟨w.heap.size+1,2,none⟩ (.bool full)) (NewF F w ((((((w3.setCell ⟨r2,i,none⟩ (.int .u64 x)).setCell ⟨r1,seg,none⟩ (.slice (some ⟨r2,0,none⟩) m k2)).setCell ⟨w.heap.size,0,none⟩ (.slice (some ⟨r1,0,none⟩) n k1)).setCell ⟨w.heap.size+1,0,none⟩ (.slice (some ⟨r1,0,none⟩) n k1)).setCell ⟨w.heap.size+1,1,none⟩ (.int .i64 size)).setCell ⟨w.heap.size+1,2,none⟩ (.bool full)))):=by
  have hls2:(a[seg].set i x).length=m:=by rw [List.length_set];exact HM.out
  have hla2:(a.set seg (a[seg].set i x)).length=n:=by rw [List.length_set];exact HN.out
  have o2:=zF hs2' hK5 (fun k hk e=>by cases hk;exact absurd e (show ¬ (r2=w.heap.size∨r2=w.heap.size+1) by omega))
  have o1:=zF hst1.1 hK5 (fun k hk e=>by cases hk;exact absurd e (show ¬ (r1=w.heap.size∨r1=w.heap.size+1) by omega))
  have hl2:=(o2.lt r2 rfl).2
  have hl1:=(o1.lt r1 rfl).2
  refine LH ((((HVF.out.grow HG5.out).and ((Foot.of_own o1).and (Foot.of_ownU o2))).imp (fun W' hW=>?_)).mono (fun k hk=>?_) (fun k hk=>?_))
  ·have hsr:SliceR 1 (.slice (some ⟨r2,0,none⟩) (a[seg].set i x).length k2) (a[seg].set i x).length (u64s (a[seg].set i x)) W':=by
     rw [hls2]
     exact hW.2.2.1
   have hd:=hW.1.set seg hs (a[seg].set i x) _ k2 hsr (by rw [hls2];exact hW.2.2.2)
   have ho1:SliceR 1 (.slice (some ⟨r1,0,none⟩) (a.set seg (a[seg].set i x)).length k1) (a.set seg (a[seg].set i x)).length (vs.set seg (.slice (some ⟨r2,0,none⟩) (a[seg].set i x).length k2)) W':=by
    rw [hls2,hla2]
    exact hW.2.1
   have:=RowsU.of_slice ho1 hd
   rw [hla2] at this
   exact this
  ·rcases hk with h | h
   ·exact Nat.lt_of_lt_of_le (HVF.out.lt h) HG5.out.size
   ·exact h.2
  ·rcases hk with h | h | h
   ·exact .inl h
   ·cases h;exact .inr ⟨show w.heap.size≤r1 by omega,hl1⟩
   ·cases h;exact .inr ⟨show w.heap.size≤r2 by omega,hl2⟩
 have e1:r1≠w.heap.size:=by omega
 have e2:r2≠w.heap.size:=by omega
 have e3:w.heap.size≠r1:=by omega
 have e4:w.heap.size≠r2:=by omega
 have e5:w.heap.size+1≠r1:=by omega
 have e6:w.heap.size+1≠r2:=by omega
 clear hap ho hgx hcells2 hr2 hst2 hO3 hst1 hs2' hK5 HB0' HB1' HO hl64
 go_wp2
 refine bodyPost_ret (v:=.agg #[.slice (some ⟨r1,0,none⟩) n k1,.int .i64 size,.bool full]) ?_ rfl ⟨_,_,rfl,HG5.out,HRR.out⟩
 rw [zO rfl];go_simp
theorem zWJ:Tryz.prog.underlying 3=some (.int .i64):=by kernel_rfl
theorem zoL (m:Nat):(Builtin.zeroCells (Value.int .u64 0).cells m).toList=u64s (List.replicate m 0):=by
 apply List.ext_getElem (by simp [Builtin.zeroCells,u64s,Value.cells])
 intro j h1 h2
 simp [Builtin.zeroCells,u64s,Value.cells,Nat.mod_one]
theorem zfK (w:World) (base:Nat) (ty:TypeId) (v:Value) (n:Nat) (xs:List Value) (hown:w.ownsRow base 22 1 v n xs) (m:Nat) (hnm:n+m≤10000000) (hbase:base≤w.heap.size) :
    ∃ v' w',(Builtin.append_ #[111,3] ty #[v,.int .i64 m]).run Tryz.prog w=.ok v' w'∧w'.ownsRow base 22 1 v' (n+m) (xs++u64s (List.replicate m 0))∧w.grownBy w' v.ownBlock∧(v'.ownBlock=v.ownBlock∨v'.ownBlock=some w.heap.size):=by
 obtain ⟨i,hi,hz,hsz,hby⟩:=info_parts zj
 have hw:IntKind.i64.wrap (m:Int)=m:=IntWalk.i64_in _ (by omega)
 have hw0:IntKind.i64.wrap 0=0:=IntWalk.i64_in _ (by omega)
 have hneg:¬ ((m:Int)<0):=by omega
 have hbig:¬ (281474976710656<(m:Int)*(i.bytes:Int)):=by rw [hby];omega
 have ht:=zx
 have hti:=zWJ
 have hl:(u64s (List.replicate m 0)).length=m:=by simp [u64s]
 have hzz:=zoL m
 have hna:Builtin.zeroCells (Value.int .u64 0).cells m=(u64s (List.replicate m 0)).toArray:=by rw [← hzz]
 have hlen:(xs++u64s (List.replicate m 0)).length=(n+m)*1:=by rw [List.length_append,hown.1,hl];omega
 have grown : ∀ (old : Nat), old < n + m → ∀ (row : Option Nat),
     (w.drew.alloc (.cells ((xs++u64s (List.replicate m 0)).toArray++Builtin.zeroCells (Value.int .u64 0).cells (grownCap w (n+m) old 22-(n+m))) 22)).ownsRow base 22 1
      (.slice (some ⟨w.heap.size,0,none⟩) (n+m) (grownCap w (n+m) old 22)) (n+m) (xs++u64s (List.replicate m 0)) ∧
     w.grownBy (w.drew.alloc (.cells ((xs++u64s (List.replicate m 0)).toArray++Builtin.zeroCells (Value.int .u64 0).cells (grownCap w (n+m) old 22-(n+m))) 22)) row:=by
  intro old ho row
  have hge:=grownCap_ge w (n+m) old 22
  have hcm:grownCap w (n+m) old 22≤maxLen:=grownCap_le_maxLen w (n+m) old 22 (by simp [maxLen];omega)
  refine ⟨⟨hlen,.inr ⟨w.heap.size,_,_,rfl,hbase,heap_alloc_new w.drew _,hge,hcm,?_,?_⟩⟩,⟨rfl,rfl,rfl,by simp,fun k hk _=>Below.heap_alloc w.drew _ k hk⟩⟩
  ·rw [Array.size_append,List.size_toArray,size_zeroCells,hlen]
   simp only [Value.cells,List.size_toArray,List.length_cons,List.length_nil]
   omega
  ·rw [Array.toList_append,← hlen]
   exact List.take_left
 have runs:∀ (A:Option Addr) (cap:Nat),cap<n+m→(Builtin.firstCells 1 n (.slice A n cap)).run Tryz.prog w.drew=.ok xs.toArray w.drew→(Builtin.append_ #[111,3] ty #[.slice A n cap,.int .i64 m]).run Tryz.prog w =
     .ok (.slice (some ⟨w.heap.size,0,none⟩) (n+m) (grownCap w (n+m) cap 22)) (w.drew.alloc (.cells ((xs++u64s (List.replicate m 0)).toArray++Builtin.zeroCells (Value.int .u64 0).cells (grownCap w (n+m) cap 22-(n+m))) 22)):=by
  intro A cap hcap hfo
  have hn:¬ (n+m≤cap):=by omega
  have h63':¬ (9223372036854775807<((n:Int)+(m:Int))):=by omega
  have hfit:=growslice_fits (bytes:=i.bytes) hcap (by rw [hby];omega)
  have h48':¬ (281474976710656<Builtin.nextslicecap (n+m) cap*i.bytes):=by omega
  by_cases hm:m=0
  ·subst hm
   have hnl:u64s (List.replicate 0 0)=[]:=rfl
   rw [hnl]
   simp only [Nat.add_zero] at hn h63' h48' ⊢
   have h63'':¬ (9223372036854775807<(n:Int)):=by omega
   simp [Builtin.append_,run_underlying ht,run_underlying hti,sizeOf,typeInfo,zeroValue,hi,hz,hsz,asInt,asIntOf,hw0,hn,h63'',h48',Question.forced,hfo,newRow,grownCap]
  ·have hmz:¬ (m=0):=hm
   simp [Builtin.append_,run_underlying ht,run_underlying hti,sizeOf,typeInfo,zeroValue,hi,hz,hsz,asInt,asIntOf,hw,hneg,hbig,hn,h63',h48',Question.forced,hfo,newRow,grownCap,hmz,hna]
   generalize u64s (List.replicate m 0)=Z
   have e:∀ Y:Array Value,xs.toArray++(Z.toArray++Y)=(xs++Z).toArray++Y:=fun Y=>by apply Array.ext';simp
   rw [e]
 rcases hown.2 with ⟨rfl,rfl⟩ | ⟨g,cap,cur,rfl,hbg,hg,hnc,hcm,hcs,htake⟩
 ·have hx:xs=[]:=List.eq_nil_of_length_eq_zero (by simpa using hown.1)
  subst hx
  by_cases hm:m=0
  ·subst hm
   refine ⟨.slice none 0 0,w,?_,World.ownsRow_nil w base 22 1,⟨rfl,rfl,rfl,Nat.le_refl _,fun _ _ _=>rfl⟩,Or.inl rfl⟩
   simp [Builtin.append_,run_underlying ht,run_underlying hti,sizeOf,typeInfo,hi,asInt,asIntOf,hw0]
  ·have hgr:=grown 0 (by omega) (Value.ownBlock (.slice none 0 0))
   exact ⟨_,_,runs none 0 (by omega) (by simp [Builtin.firstCells]),hgr.1,hgr.2,Or.inr rfl⟩
 ·by_cases hroom:n+m≤cap
  ·have hfit:n+(u64s (List.replicate m 0)).length≤cur.size:=by rw [hl,hcs];omega
   have hst:=run_storeCells_at Tryz.prog g n 22 (u64s (List.replicate m 0)) 0 cur w hg (by simpa using hfit) (zsA _)
   simp only [Nat.add_zero] at hst
   refine ⟨_,_,?_,⟨hlen,.inr ⟨g,cap,_,rfl,hbg,setRow_heap w g cur (cur.toList.take n++u64s (List.replicate m 0)++cur.toList.drop (n+(u64s (List.replicate m 0)).length)).toArray 22 _ hg,hroom,hcm,?_,?_⟩⟩,⟨rfl,rfl,rfl,by simp,fun k _ hk=>setRow_other w g k _ (fun e=>hk (by simp [Value.ownBlock,e]))⟩,.inl rfl⟩
   ·by_cases hm:m=0
    ·subst hm
     have hnl:u64s (List.replicate 0 0)=[]:=rfl
     rw [hnl] at hst ⊢
     simp at hst
     simp [Builtin.append_,run_underlying ht,run_underlying hti,sizeOf,typeInfo,hi,hsz,asInt,asIntOf,hw0,hnc,Addr.add_lit,hst]
    ·simp [Builtin.append_,run_underlying ht,run_underlying hti,sizeOf,typeInfo,zeroValue,hi,hz,hsz,asInt,asIntOf,hw,hneg,hbig,hroom,hm,hna,Addr.add_lit,hst]
   ·simp only [List.size_toArray,List.length_append,List.length_take,List.length_drop,Array.length_toList]
    omega
   ·have h6:cur.toList.take n=xs:=by simpa using htake
    rw [h6,← hlen]
    exact List.take_left
  ·have holds:∀ j u,xs[j]? = some u→w.cell? ((⟨g,0,none⟩:Addr).add j)=some u:=hown.cells (g:=g) rfl
   have hgr:=grown cap (by omega) (Value.ownBlock (.slice (some ⟨g,0,none⟩) n cap))
   exact ⟨_,_,runs (some ⟨g,0,none⟩) cap (by omega) (run_firstCells_some (P:=Tryz.prog) w.drew 1 n _ n cap xs (by simpa using hown.1) (by simpa using holds)),hgr.1,hgr.2,Or.inr rfl⟩
theorem zBE {P:Program} {ops:Array Oper} {rest:List Oper} {o:Oper} {a:Act} {w:World} {Q:Exit→Act→World→Prop} (hgd:o.guard=none) (s x:Operand) (t tx:TypeId)
    (ho:o.op=.call { callee:=.builtin .append,args:=#[s,x],argTypes:=#[t,tx] }) (v xv:Value) (hv:a.eval s=v) (hx:a.eval x=xv) (v':Value) (w':World) (hr:(Builtin.append_ #[t,tx] o.type #[v,xv]).run P w=.ok v' w')
    (h:wpList P ops Q rest (a.put o.dst v') w'):wpList P ops Q (o :: rest) a w :=
 wpList_plain hgd fun _ hK=>by
  unfold Oper.wp execOp
  simp only [ho,resolve,invoke,builtin,Sem.run_bind,Sem.run_pure,Result.andThen_ok,List.map_toArray,List.map_cons,List.map_nil,hv,hx,hr]
  exact hK _ _ h
end Go.Proofs.YtfkcpaahdlkcdaaGreat

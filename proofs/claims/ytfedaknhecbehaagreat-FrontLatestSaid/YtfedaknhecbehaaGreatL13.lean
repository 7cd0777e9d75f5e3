/- Lemmas of the proof, with their conditions. -/
import Derived.Test.YtfedaknhecbehaaGreatL08
import Derived.Great.Walk
namespace Go.Proofs.YtfedaknhecbehaaGreat
open Tryz Go.RowKit
variable {b o:Nat} {W:World}
set_option linter.all false
set_option maxHeartbeats 1000000
set_option maxRecDepth 20000
theorem elemWrite:ElemN prog 183 292 (.agg ((.int .i64 0 :: List.replicate 64 (.int .u8 0)).toArray)) 65 72:=ElemN.of underlying183 (by kernel_rfl) rfl Z
theorem ZAv (a:Option Addr) (len c:Nat) (h:64<=len) (W:World):(Instr.arrayAt 290 (.slice a len c)).run prog W=.ok (.pointer a) W:=Go.run_arrayAt (P:=prog) W _ _ 64 a len c underlying290 h
theorem KAZ (z:Int) (bs:List UInt8) (a:bs.length=64) (W:World):(Instr.build 292 #[(0,.int .i64 z),(1,.agg (bys bs).toArray)]).run prog W=.ok (.agg (Value.int .i64 z :: bys bs).toArray) W:=by
 refine run_build W _ _ _ ?_;rw[show (#[(0,Value.int .i64 z),(1,.agg (bys bs).toArray)]:Array (Nat×Value)).toList=[(0,.int .i64 z),(1,.agg (bys bs).toArray)] from rfl];rw[QAQ [(0,1),(1,64)] (.agg ((.int .i64 0 :: List.replicate 64 (.int .u8 0)).toArray)) underlying292 (by kernel_rfl) (by kernel_rfl)];rw[Vw _ _ 0 0 1 _ _ rfl rfl (by simp[Value.cells]),Vw _ _ 1 1 64 _ _ rfl (by simp[Value.cells,a]) (by simp[Value.cells,laid]),Instr.fill];simp[Value.cells,laid,a]
theorem Yv (z:Int) (bs:List UInt8) (b:bs.length=64) (W:World):(Instr.buildSlice 183 1 #[(0,.agg (Value.int .i64 z :: bys bs).toArray)]).run prog W =
 .ok (.slice (some W.heap.size) 1 1) (W.alloc (.cells (Value.int .i64 z :: bys bs).toArray 292)):=by
 obtain⟨i,hi,c,a,_⟩:=elemWrite.info;refine run_buildSlice W _ _ 1 _ _ i _ elemWrite.und hi c (by rw[a];decide) (by rw[a];decide) ?_;rw[show (#[(0,Value.agg (Value.int .i64 z :: bys bs).toArray)]:Array (Nat×Value)).toList=[(0,.agg (Value.int .i64 z :: bys bs).toArray)] from rfl,a];rw[Vw _ _ 0 0 65 _ _ rfl (by simp[Value.cells,b]) sq,Instr.fill];simp[Value.cells,laid,b]
theorem YAT (xs bs:List UInt8) (k:Nat):laid (bys xs) k (bys bs)=bys (laid xs k bs):=(QAM xs k bs).symm
theorem isRow_block:prog.underlying 290=some (.array 64 5):=underlying290
theorem YAH (bs:List UInt8) (a:bs.length=64) (h:W.rangeAt b o (bys bs)):(Instr.loadAt 290 (.pointer (some (aq b o)))).run prog W=.ok (.agg (bys bs).toArray) W:=
 run_loadAt_mid W b o 290 (bys bs) _ h isRow_block rfl (by rw[length_bys,a];kernel_rfl)
theorem XAA (bs:List UInt8) (a:bs.length=64) (h:W.there b o 64):(Instr.storeAt 290 (.pointer (some (aq b o))) (.agg (bys bs).toArray)).run prog W=.ok () (W.setCells b o (bys bs)):=
 DZ W b o 290 (bys bs).toArray (by simpa [a] using h) (by rw[As,length_bys,a];kernel_rfl) (DB (Zi _))
theorem Kj {w:World} {base d:Nat} {F:List Nat} {D:PDisk} (h:DiskAt w base d F D) (ab:D.off=false) (ac:D.fuse = -1) (ha:D.acts<=1000000000) (k:Nat) (t:k<D.n) {A:Option Addr} (c:Nat) (bs:List UInt8)
 (hb:Rd w A 64 (bys bs)) (ad:∀ a,A=some a->a.block∉F) (ae:base<=w.heap.size) :
 Calls prog 223 #[pq d,k,.slice A 64 c] w fun e w'=>e=.returned zz/\∃ F',DiskAt w' base d F' (D.write k bs)/\Keep F w w'/\Grow w F F':=by
 obtain⟨S,b6,H,U,h⟩:=h;obtain⟨g,nc,rfl,b7,b8⟩:=JE h.now h.pos;have af:=ZBE h k t;have a0:=XBZ h ab ac ha;obtain⟨b9,ba,c2,bb,c4,c5,c6⟩:=JL h.blk;have m:bs.length=64:=uq hb.1;obtain⟨v,J,rfl,L,ag⟩:=hb.some64 Z;have a1:v∉F:=ad _ rfl;have a2:v∉[d]:=fun j=>a1 (by rw[h.foot];simp at j;simp[j]);have bc:=h.few;have bd:((k:Nat):Int)<(D.n:Nat):=Z;go_enter func223,ntmps223;go_wp2_with (first | (apply mq af) | (refine a0.mono ?_;clear a0;rintro e w1 ⟨rfl,i,y⟩));have k2:=(JL i.blk).2.2.1;have Q:=y.range ag L a2;have bf:=fun W=>ZAv (some (aq v J)) 64 c (AG _) W;have M:=fun W B=>YAH (b:=v) (o:=J) bs m (W:=W) B;have ah:=fun W=>KAZ k bs m W;have ai:=fun W=>Yv k bs m W;refine ZT (fun w'=>cl w' (aq d 2) H/\(Instr.loadAt 290 (.pointer (some (aq v J)))).run prog w'=.ok (.agg (bys bs).toArray) w') 12 [[0,1,2,3,4,5,6,7,8,9],[10],[11]] ⟨k2,M _ Q⟩ ?_;simp only[PI];iterate 8 refine wG ?_
 refine ZU _ rq (fun W B=>Ko _ _ rfl _ rfl B.2) ?_
 try simp only[Act.put,PU]
 refine ZU _ rq (fun W B=>JAq _ _ rfl (ah W) (by simp only[Cn,CN,C4];rfl)) ?_
 try simp only[Act.put,PU]
 refine YB rq (fun K R=>?_);refine XAD _ _ _ rfl (ai _) (by simp only[Cn,CN,C4];rfl) ?_;have z:kz w1 (w1.drew.alloc (.cells (Value.int .i64 k :: bys bs).toArray 292)):=kq.drew.alloc _;have aj:=Blk.new w1.drew 292 (Value.int .i64 k :: bys bs).toArray;refine R _ _ (⟨(JL (i.kO z).blk).2.2.1,M _ (z.range Q (y.lt L) sq)⟩) ?_
 try simp only[Act.put,PU]
 refine YB rq (fun K R=>?_);have ak:base<=(w1.drew.alloc (.cells (Value.int .i64 k :: bys bs).toArray 292)).heap.size:=AA ae (AA y.size z.size);have a3:=Rd.of_blk aj (n:=65) (by simp[m]);rw[AH (by simp[m])] at a3;have bg:D.held.length<=1000000000:=AA h.acts ha
 refine elemWrite.wp1_app (.tmp 26) (.tmp 32) rq base H D.held.length (D.held.flatMap Vb) rq (QB i.held z) ⟨w1.drew.heap.size,0,none⟩ 1 1 (Value.int .i64 k :: bys bs) rq a3 (fun u T=>by
  rcases AM.1 T with rfl | T
  . rfl
  exact Zi _ u T) Z Z ak ?_
 intro bh N a4 al a5 _;have r:Keep H.ownBlock.toList w1 N:=z.zero.trans al (fun x f=>.inl f);have C:=h.foot;have am:v∉H.ownBlock.toList:=fun j=>a1 (by rw[C];simp at j;simp[j]);have G:=i.blk.keep r i.dH;have a6:=r.range Q (y.lt L) am;refine R _ _ (⟨(JL G).2.2.1,M _ a6⟩) ?_
 try simp only[Act.put,PU]
 refine KB ?_;have q2:=G.frozen 2;have j2:=(JL G).2.2.1;obtain⟨A',V,rfl,_⟩:=ZB a4;go_wp2_with fail;have E:Keep [d] N (N.setCell (aq d 2) (.slice A' (D.held.length+1) V)):=kq.sc d 2;have X:=G.set 2 (.slice A' (D.held.length+1) V);have an:=E.range a6 (BC (y.lt L) r.size) a2
 have a7:=XB a4 E (fun x f=>by
  rcases a5 with e | e
  . rw[e] at f;simp;rintro rfl;exact i.dH (uq f)
  rw[e] at f;simp at f ⊢;subst f;have:=r.size;have:=G.lt;have:=i.blk.lt;have:=z.size;simp at this ⊢;omega)
 have ao:g∉H.ownBlock.toList:=fun j=>own_ne i.now i.held (by decide) rfl (uq j);have a8:g≠d:=fun e=>i.dN (by simp[Value.ownBlock,e]);have ap:g∉S.ownBlock.toList:=fun j=>i.ne (by simpa [Value.ownBlock] using j);have ar:g∉U.ownBlock.toList:=fun j=>own_ne i.now i.flt (by decide) rfl (uq j);have au:∀ x,S.ownBlock=some x->x∉H.ownBlock.toList:=fun x f j=>own_ne i.safe i.held (by decide) f (uq j);have av:∀ x,U.ownBlock=some x->x∉H.ownBlock.toList:=fun x f j=>own_ne i.flt i.held (by decide) f (uq j);have Y:=XB (XB i.now r (fun x f=>by simp[Value.ownBlock] at f;subst f;exact ao)) E (fun x f=>by simp[Value.ownBlock] at f;subst f;simpa using a8);have aw:=XB (XB i.safe r au) E (fun x f=>by simp;rintro rfl;exact i.dS (uq f));have ax:=XB (XB i.flt r av) E (fun x f=>by simp;rintro rfl;exact i.dU (uq f));generalize N.setCell (aq d 2) (.slice A' (D.held.length+1) V)=w3 at *;simp at X;refine ZT (fun w'=>cl w' (aq d 1) (.slice (some g) D.n nc)/\(Instr.loadAt 290 (.pointer (some (aq v J)))).run prog w'=.ok (.agg (bys bs).toArray) w') 8 [[0,1,2,3,4,5,6,7]] ⟨(JL X).2.1,M _ an⟩ ?_;simp only[PI];iterate 7 refine wG ?_
 refine ZU _ rq (fun W B=>Ko _ _ rfl _ rfl B.2) ?_
 try simp only[Act.put,PU]
 refine KB ?_;refine Vq rfl (Vt _ _ _ rfl _ _ rfl rfl (Jf underlying182 (s:=64) (by kernel_rfl) g 0 D.n nc k t _)) ?_;refine Jz rfl _ _ _ rfl _ _ rfl rfl (XAA (b:=g) bs m (uq (ZAQ Y.drew t))) ?_;rw[A6];have I:Keep [g] w3 (w3.drew.setCells g (k*64) (bys bs)):=Keep.setCells _ _ kq.drew (.inl sq);have a9:=QAF Y.drew t (ys:=bys bs) (by simp[m]);have ay:=XB aw I (fun x f=>by simp;rintro rfl;exact ap (uq f));have az:=XB ax I (fun x f=>by simp;rintro rfl;exact ar (uq f));have b0:=XB a7 I (fun x f=>by simp;rintro rfl;exact own_ne Y a7 (by decide) rfl f);have b1:=X.keep I (by simpa using fun e=>a8 e.symm);generalize w3.drew.setCells g (k*64) (bys bs)=w4 at *;go_wp2_with fail;go_ret;have O:∀ l:List Nat,(∀ x∈l,x∈F)->∀ {u aa:World},Keep l u aa->Keep F u aa:=fun l hl _ _ t=>t.sub hl;have b2:=O [d] (by simp[C]) y;have b3:=O H.ownBlock.toList (by intro x f;simp[C];simp at f;simp[f]) r;have b4:=O [d] (by simp[C]) E;have b5:=O [g] (by simp[C,Value.ownBlock]) I;refine⟨rfl,_,⟨S,_,_,U,b1,ay,by rw[YAT] at a9;exact a9,?_,az,i.ne,rfl,i.base,i.pos,i.few,?_,?_⟩,((b2.trans b3 (fun x f=>.inl f)).trans b4 (fun x f=>.inl f)).trans b5 (fun x f=>.inl f),?_⟩
 . have:(D.write k bs).held.length=D.held.length+1:=by simp[PDisk.write]
   rw[this];simpa [PDisk.write,Vb] using b0
 . intro p P
   simp only[PDisk.write,AD,Ak] at P;rcases P with P | rfl
   . exact h.ats p P
   exact⟨t,m⟩
 . have:=h.acts
   simp[PDisk.write];omega
 intro x f;simp only[AM,AD] at f;rw[C];rcases f with rfl | f | f | f | f
 . simp
 . simp only[AM,AD];simp[f]
 . simp only[AM,AD];simp[f]
 . rcases a5 with e | e
   . rw[e] at f;simp only[AM,AD];simp[f]
   rw[e] at f;simp at f;right;have:=y.size;have:=z.size;simp at this;omega
 simp only[AM,AD];simp[f]
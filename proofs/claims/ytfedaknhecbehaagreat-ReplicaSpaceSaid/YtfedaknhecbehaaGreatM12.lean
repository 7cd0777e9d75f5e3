/- Lemmas of the proof, with their conditions. -/
import Derived.Test.YtfedaknhecbehaaGreatM08
import Derived.Great.Walk
namespace Go.Proofs.YtfedaknhecbehaaGreat
open Tryz Go.RowKit
variable {b o:Nat} {W:World}
set_option linter.all false
set_option maxHeartbeats 1000000
set_option maxRecDepth 20000
theorem elemWrite:ElemN prog 183 292 (.agg ((.int .i64 0 :: List.replicate 64 (.int .u8 0)).toArray)) 65 72:=ElemN.of underlying183 (by kernel_rfl) rfl Z
theorem XAq (a:Option Addr) (b c:Nat) (h:64<=b) (W:World):(Instr.arrayAt 290 (.slice a b c)).run prog W=.ok (.pointer a) W:=Go.run_arrayAt (P:=prog) W _ _ 64 a b c underlying290 h
theorem KAT (z:Int) (bs:List UInt8) (a:bs.length=64) (W:World):(Instr.build 292 #[(0,.int .i64 z),(1,.agg (bys bs).toArray)]).run prog W=.ok (.agg (Value.int .i64 z :: bys bs).toArray) W:=by
 refine run_build W _ _ _ ?_;rw[show (#[(0,Value.int .i64 z),(1,.agg (bys bs).toArray)]:Array (Nat×Value)).toList=[(0,.int .i64 z),(1,.agg (bys bs).toArray)] from rfl];rw[QAR [(0,1),(1,64)] (.agg ((.int .i64 0 :: List.replicate 64 (.int .u8 0)).toArray)) underlying292 (by kernel_rfl) (by kernel_rfl)];rw[Qw _ _ 0 0 1 _ _ rfl rfl (by simp[Value.cells]),Qw _ _ 1 1 64 _ _ rfl (by simp[Value.cells,a]) (by simp[Value.cells,laid]),Instr.fill];simp[Value.cells,laid,a]
theorem Qs (z:Int) (bs:List UInt8) (b:bs.length=64) (W:World):(Instr.buildSlice 183 1 #[(0,.agg (Value.int .i64 z :: bys bs).toArray)]).run prog W =
 .ok (.slice (some W.heap.size) 1 1) (W.alloc (.cells (Value.int .i64 z :: bys bs).toArray 292)):=by
 obtain⟨i,hi,c,a,_⟩:=elemWrite.info;refine run_buildSlice W _ _ 1 _ _ i _ elemWrite.und hi c (by rw[a];decide) (by rw[a];decide) ?_;rw[show (#[(0,Value.agg (Value.int .i64 z :: bys bs).toArray)]:Array (Nat×Value)).toList=[(0,.agg (Value.int .i64 z :: bys bs).toArray)] from rfl,a];rw[Qw _ _ 0 0 65 _ _ rfl (by simp[Value.cells,b]) sq,Instr.fill];simp[Value.cells,laid,b]
theorem ZAL (xs bs:List UInt8) (k:Nat):laid (bys xs) k (bys bs)=bys (laid xs k bs):=(XAI xs k bs).symm
theorem isRow_block:prog.underlying 290=some (.array 64 5):=underlying290
theorem JAE (bs:List UInt8) (a:bs.length=64) (h:W.rangeAt b o (bys bs)):(Instr.loadAt 290 (.pointer (some (aq b o)))).run prog W=.ok (.agg (bys bs).toArray) W:=
 EG W b o 290 (bys bs) _ h isRow_block rfl (by rw[length_bys,a];kernel_rfl)
theorem Yv (bs:List UInt8) (a:bs.length=64) (h:W.there b o 64):(Instr.storeAt 290 (.pointer (some (aq b o))) (.agg (bys bs).toArray)).run prog W=.ok () (W.setCells b o (bys bs)):=
 Da W b o 290 (bys bs).toArray (by simpa [a] using h) (by rw[Ay,length_bys,a];kernel_rfl) (DC (Xk _))
theorem Zt {w:World} {base d:Nat} {F:List Nat} {D:PDisk} (h:DiskAt w base d F D) (ad:D.off=false) (ae:D.fuse = -1) (ha:D.acts<=1000000000) (k:Nat) (r:k<D.n) {A:Option Addr} (c:Nat) (bs:List UInt8)
 (hb:Rd w A 64 (bys bs)) (af:∀ a,A=some a->a.block∉F) (ag:base<=w.heap.size) :
 Calls prog 223 #[pq d,k,.slice A 64 c] w fun e w'=>e=.returned zz/\∃ a0,DiskAt w' base d a0 (D.write k bs)/\Keep F w w'/\Grow w F a0:=by
 obtain⟨S,N,H,U,h⟩:=h;obtain⟨g,nc,rfl,b7,b8⟩:=YD h.now h.pos;have a1:=XAs h k r;have a2:=KBT h ad ae ha;obtain⟨b9,ba,c2,bb,c4,c5,c6⟩:=QL h.blk;have m:bs.length=64:=uq hb.1
 obtain⟨t,I,rfl,J,ah⟩:=hb.some64 Z;have a3:t∉F:=af _ rfl;have a4:t∉[d]:=fun j=>a3 (by rw[h.foot];simp at j;simp[j]);have bc:=h.few;have bd:((k:Nat):Int)<(D.n:Nat):=Z
 go_enter func223,ntmps223;go_wp2_with (first | (refine a1.mono ?_;clear a1;rintro e w' ⟨rfl,rfl⟩) | (refine a2.mono ?_;clear a2;rintro e w1 ⟨rfl,i,v⟩));have k2:=(QL i.blk).2.2.1;have Q:=v.range ah J a4;have bf:=fun W=>XAq (some (aq t I)) 64 c (AG _) W;have L:=fun W z=>JAE (b:=t) (o:=I) bs m (W:=W) z;have ai:=fun W=>KAT k bs m W;have aj:=fun W=>Qs k bs m W;refine ZT (fun w'=>cl w' (aq d 2) H/\(Instr.loadAt 290 (.pointer (some (aq t I)))).run prog w'=.ok (.agg (bys bs).toArray) w') 12 [[0,1,2,3,4,5,6,7,8,9],[10],[11]] ⟨k2,L _ Q⟩ ?_;simp only[PI];iterate 8 refine wG ?_
 refine XV _ rq (fun W z=>Xf _ _ rfl _ rfl z.2) ?_
 try simp only[Act.put,PU]
 refine XV _ rq (fun W z=>XAn _ _ rfl (ai W) (by simp only[Co,CN,Cx];rfl)) ?_
 try simp only[Act.put,PU]
 refine JB rq fun K R=>?_;refine VAB _ _ _ rfl (aj _) (by simp only[Co,CN,Cx];rfl) ?_;have y:kz w1 (w1.drew.alloc (.cells (Value.int .i64 k :: bys bs).toArray 292)):=kq.drew.alloc _;have ak:=Blk.new w1.drew 292 (Value.int .i64 k :: bys bs).toArray;refine R _ _ (⟨(QL (i.kO y).blk).2.2.1,L _ (y.range Q (v.lt J) sq)⟩) ?_
 try simp only[Act.put,PU]
 refine JB rq fun K R=>?_;have al:base<=(w1.drew.alloc (.cells (Value.int .i64 k :: bys bs).toArray 292)).heap.size:=AB ag (AB v.size y.size);have a5:=Rd.of_blk ak (n:=65) (by simp[m]);rw[AK (by simp[m])] at a5;have bg:D.held.length<=1000000000:=AB h.acts ha
 refine elemWrite.wp1_app (.tmp 26) (.tmp 32) rq base H D.held.length (D.held.flatMap YZ) rq (QB i.held y) ⟨w1.drew.heap.size,0,none⟩ 1 1 (Value.int .i64 k :: bys bs) rq a5 (fun u T=>by
  rcases AL.1 T with rfl | T
  . rfl
  exact Xk _ u T) Z Z al ?_
 intro bh M a6 am a7 _;have q:Keep H.ownBlock.toList w1 M:=y.zero.trans am (fun x f=>.inl f);have B:=h.foot;have an:t∉H.ownBlock.toList:=fun j=>a3 (by rw[B];simp at j;simp[j]);have E:=i.blk.keep q i.dH;have a8:=q.range Q (v.lt J) an;refine R _ _ (⟨(QL E).2.2.1,L _ a8⟩) ?_
 try simp only[Act.put,PU]
 refine VB ?_;have q2:=E.frozen 2;have j2:=(QL E).2.2.1;obtain⟨A',V,rfl,_⟩:=XB a6;go_wp2_with fail;have C:Keep [d] M (M.setCell (aq d 2) (.slice A' (D.held.length+1) V)):=kq.sc d 2;have X:=E.set 2 (.slice A' (D.held.length+1) V);have ao:=C.range a8 (BP (v.lt J) q.size) a4
 have a9:=KA a6 C (fun x f=>by
  rcases a7 with e | e
  . rw[e] at f;simp;rintro rfl;exact i.dH (uq f)
  rw[e] at f;simp at f ⊢;subst f;have:=q.size;have:=E.lt;have:=i.blk.lt;have:=y.size;simp at this ⊢;omega)
 have ap:g∉H.ownBlock.toList:=fun j=>own_ne i.now i.held (by decide) rfl (uq j);have aa:g≠d:=fun e=>i.dN (by simp[Value.ownBlock,e]);have ar:g∉S.ownBlock.toList:=fun j=>i.ne (by simpa [Value.ownBlock] using j);have au:g∉U.ownBlock.toList:=fun j=>own_ne i.now i.flt (by decide) rfl (uq j);have av:∀ x,S.ownBlock=some x->x∉H.ownBlock.toList:=fun x f j=>own_ne i.safe i.held (by decide) f (uq j);have aw:∀ x,U.ownBlock=some x->x∉H.ownBlock.toList:=fun x f j=>own_ne i.flt i.held (by decide) f (uq j);have Y:=KA (KA i.now q (fun x f=>by simp[Value.ownBlock] at f;subst f;exact ap)) C (fun x f=>by simp[Value.ownBlock] at f;subst f;simpa using aa);have ax:=KA (KA i.safe q av) C (fun x f=>by simp;rintro rfl;exact i.dS (uq f));have ay:=KA (KA i.flt q aw) C (fun x f=>by simp;rintro rfl;exact i.dU (uq f));generalize M.setCell (aq d 2) (.slice A' (D.held.length+1) V)=w3 at *;simp at X;refine ZT (fun w'=>cl w' (aq d 1) (.slice (some g) D.n nc)/\(Instr.loadAt 290 (.pointer (some (aq t I)))).run prog w'=.ok (.agg (bys bs).toArray) w') 8 [[0,1,2,3,4,5,6,7]] ⟨(QL X).2.1,L _ ao⟩ ?_;simp only[PI];iterate 7 refine wG ?_
 refine XV _ rq (fun W z=>Xf _ _ rfl _ rfl z.2) ?_
 try simp only[Act.put,PU]
 refine VB ?_;refine Jl rfl (Xo _ _ _ rfl _ _ rfl rfl (Zd underlying182 (s:=64) (by kernel_rfl) g 0 D.n nc k r _)) ?_;refine Va rfl _ _ _ rfl _ _ rfl rfl (Yv (b:=g) bs m (uq (XAQ Y.drew r))) ?_;rw[BB];have G:Keep [g] w3 (w3.drew.setCells g (k*64) (bys bs)):=Keep.setCells _ _ kq.drew (.inl sq);have ab:=JAD Y.drew r (ys:=bys bs) (by simp[m]);have az:=KA ax G (fun x f=>by simp;rintro rfl;exact ar (uq f));have b0:=KA ay G (fun x f=>by simp;rintro rfl;exact au (uq f));have b1:=KA a9 G (fun x f=>by simp;rintro rfl;exact own_ne Y a9 (by decide) rfl f);have b2:=X.keep G (by simpa using fun e=>aa e.symm);generalize w3.drew.setCells g (k*64) (bys bs)=w4 at *;go_wp2_with fail;go_ret;have O:∀ l:List Nat,(∀ x∈l,x∈F)->∀ {u ac:World},Keep l u ac->Keep F u ac:=fun l hl _ _ r=>r.sub hl;have b3:=O [d] (by simp[B]) v;have b4:=O H.ownBlock.toList (by intro x f;simp[B];simp at f;simp[f]) q;have b5:=O [d] (by simp[B]) C;have b6:=O [g] (by simp[B,Value.ownBlock]) G;refine⟨rfl,_,⟨S,_,_,U,b2,az,by rw[ZAL] at ab;exact ab,?_,b0,i.ne,rfl,i.base,i.pos,i.few,?_,?_⟩,((b3.trans b4 (fun x f=>.inl f)).trans b5 (fun x f=>.inl f)).trans b6 (fun x f=>.inl f),?_⟩
 . have:(D.write k bs).held.length=D.held.length+1:=by simp[PDisk.write]
   rw[this];simpa [PDisk.write,YZ] using b1
 . intro p P
   simp only[PDisk.write,AD,Ag] at P;rcases P with P | rfl
   . exact h.ats p P
   exact⟨r,m⟩
 . have:=h.acts
   simp[PDisk.write];omega
 intro x f
 simp only[AL,AD] at f;rw[B];rcases f with rfl | f | f | f | f
 . simp
 . simp only[AL,AD];simp[f]
 . simp only[AL,AD];simp[f]
 . rcases a7 with e | e
   . rw[e] at f;simp only[AL,AD];simp[f]
   rw[e] at f;simp at f;right;have:=v.size;have:=y.size;simp at this;omega
 simp only[AL,AD];simp[f]
/- Lemmas of the proof, with their conditions. -/
import Derived.Test.YtfedaknhecbehaaGreatL30
namespace Go.Proofs.YtfedaknhecbehaaGreat
open Tryz Go.RowKit Go.Shelf
variable {A:Option Addr} {n g c d cb b B base k p m s e f j:Nat} {w W w':World} {t:TypeId} {a x:Int} {cs:Array Value} {F lv':List Nat} {D D':PDisk} {l:List Int} {ds:List Bool} {S S':PS} {us us':List (Nat×Nat)} {W':PW} {i:PItem} {bs:List UInt8}
set_option linter.all false
set_option maxHeartbeats 2000000
set_option maxRecDepth 100000
theorem Kd (c:Nat) (xs:List Int) (a:Rd w A n (VM xs)) (j:n<=1000000) :
 Calls prog 219 #[.slice A n c] w fun e w'=>∃ v,e=.returned v/\w'.ownsRow w.heap.size 3 1 v n (VM xs)/\kz w w':=by
 have k:=fun(W:World)=>Db (P:=prog) W 53 3 A n c 0 0 underlying53;rcases A with _ | ad
 . obtain rfl:n=0:=by
    rcases Bm n with e | e
    . exact e
    obtain⟨b,o,h,_⟩:=a.2 e;cases h
   obtain rfl:xs=[]:=Aw (uq a.1);go_enter func219,ntmps219
   go_wp2
   go_ret;exact⟨_,rfl,Ab _ _ _ _,kq⟩
 have d:=a.keep ((Keep.refl _ w).alloc (.cells #[] 3));have f:(w.alloc (.cells #[] 3)).ownsRow w.heap.size 3 1 (.slice (some w.heap.size) 0 0) 0 []:=XS (Blk.new w 3 #[]) (AG _) Z rfl rfl;go_enter func219,ntmps219;go_wp2_with (at_builtin;refine elemInts.wp_app rfl _ _ rfl w.heap.size _ 0 [] rfl f (some ad) n c (VM xs) rfl d (YAf _) Z Z sq ?_);intro l w' g i _ _
 go_wp2
 go_ret;exact⟨_,rfl,uq g,((Keep.refl _ w).alloc _).trans i (by simp[Value.ownBlock])⟩
theorem KY (l:List Nat):YL l=VM (l.map (fun(x:Nat)=>(x:Int))):=by simp[YL,VM,i64]
theorem VBl {P:Nat} (d t m p g R:Nat) (r:PReg) {BA:Option Addr} (f:Nat) (S:List Nat) {OA:Option Addr} (h:Nat) (T:List Nat) (n:Option Addr) (u v:Nat) (U:Rd w BA P (YL S)) (V:Rd w OA P (YL T)) (a7:P<=1000) (st:PSt) :
 Calls prog 184 #[pq d,pq t,pq m,pq p,pq g,R,
  .agg (r.cs (.slice BA P f) (.slice OA P h) (.slice n u v)).toArray,.agg #[ii st.mode,ii st.view,ii st.epoch,ii st.seq,ii st.done,ii st.mount,ii st.gen,zz,zz,zz]] w
  fun e w'=>∃ s W X,e=.returned (pq s)/\w.heap.size<=s /\
   Blk w' s 146 #[pq d,pq g,pq t,pq m,pq p,
    .int .i64 st.mode,ii st.view,ii st.epoch,ii st.seq,ii st.done,ii st.mount,ii st.gen,zz,zz,zz,ii R,W,X] /\
   w'.ownsRow w.heap.size 3 1 W P (YL S)/\w'.ownsRow w.heap.size 3 1 X P (YL T)/\kz w w':=by
 obtain⟨F,view,mode,G,H,I,⟨J,L,M,N,O⟩⟩:=r;obtain⟨y,z,A,B,C,D,E⟩:=st;simp only[PReg.cs,PPos.cs,Ac,Ad] at *;rw[KY] at U V;rw[KY,KY];obtain⟨i,l⟩:=ex ((w.alloc (.cells #[ii F,ii view,ii mode,ii G,ii H,ii I,ii J,ii L,ii M,ii N,ii O,.slice BA P f,.slice OA P h,.slice n u v] 240)).alloc (.cells #[ii y,ii z,ii A,ii B,ii C,ii D,ii E,zz,zz,zz] 58));have j:kz w i:=by rw[l];exact(kq.alloc _).alloc _
 have k:Blk i w.heap.size 240 #[ii F,ii view,ii mode,ii G,ii H,ii I,ii J,ii L,ii M,ii N,ii O,.slice BA P f,.slice OA P h,.slice n u v]:=by
  rw[l];exact(Blk.new w _ _).kO (kq.alloc _)
 have a:Blk i (w.heap.size+1) 58 #[ii y,ii z,ii A,ii B,ii C,ii D,ii E,zz,zz,zz]:=by
  rw[l];have:=Blk.new (w.alloc (.cells #[ii F,ii view,ii mode,ii G,ii H,ii I,ii J,ii L,ii M,ii N,ii O,.slice BA P f,.slice OA P h,.slice n u v] 240)) 58 #[ii y,ii z,ii A,ii B,ii C,ii D,ii E,zz,zz,zz];rw[show ∀ o,(w.alloc o).heap.size=w.heap.size+1 from fun o=>sq] at this;exact this
 go_enter func184,ntmps184;go_wp2_with fail;rw[<- l];clear l;have a2:=Kd f _ (U.keep j.drew) Z;refine ZT (fun w'=>cl w' ⟨w.heap.size+1,0,none⟩ (ii y)/\cl w' ⟨w.heap.size+1,1,none⟩ (ii z)/\cl w' ⟨w.heap.size+1,2,none⟩ (ii A)/\cl w' ⟨w.heap.size+1,3,none⟩ (ii B)/\cl w' ⟨w.heap.size+1,4,none⟩ (ii C)/\cl w' ⟨w.heap.size+1,5,none⟩ (ii D)/\cl w' ⟨w.heap.size+1,6,none⟩ (ii E)/\cl w' ⟨w.heap.size+1,7,none⟩ zz/\cl w' ⟨w.heap.size+1,8,none⟩ zz/\cl w' ⟨w.heap.size+1,9,none⟩ zz/\cl w' (aq w.heap.size 11) (.slice BA P f)/\cl w' (aq w.heap.size 12) (.slice OA P h)) 14 [[0,1,2,3,4,5,6,7,8,10,11],[9],[12,13]] ⟨(uq ((a.drew).cell 0)),(uq ((a.drew).cell 1)),(uq ((a.drew).cell 2)),(uq ((a.drew).cell 3)),(uq ((a.drew).cell 4)),(uq ((a.drew).cell 5)),(uq ((a.drew).cell 6)),(uq ((a.drew).cell 7)),(uq ((a.drew).cell 8)),(uq ((a.drew).cell 9)),(uq ((k.drew).cell 11)),(uq ((k.drew).cell 12))⟩ ?_;simp only[PI];iterate 11 refine wG ?_
 refine YB rq (fun K Q=>?_);go_wp2_with (apply a2.mono;rintro e w1 ⟨v1,rfl,Y,a3⟩);have b:kz i w1:=kq.drew.tO a3;have a4:=Kd h _ (V.keep (j.tO b)) Z;obtain⟨a8,a9,rfl,_⟩:=ZB Y;refine Q _ _ (⟨(uq ((a.kO b).cell 0)),(uq ((a.kO b).cell 1)),(uq ((a.kO b).cell 2)),(uq ((a.kO b).cell 3)),(uq ((a.kO b).cell 4)),(uq ((a.kO b).cell 5)),(uq ((a.kO b).cell 6)),(uq ((a.kO b).cell 7)),(uq ((a.kO b).cell 8)),(uq ((a.kO b).cell 9)),(uq ((k.kO b).cell 11)),(uq ((k.kO b).cell 12))⟩) ?_
 try simp only[Act.put,PU]
 refine YB rq (fun K Q=>?_);go_wp2_with (apply a4.mono;rintro e w2 ⟨v2,rfl,a0,a1⟩);have c:kz i w2:=b.tO a1;obtain⟨aa,ab,rfl,_⟩:=ZB a0;refine Q _ _ (⟨(uq ((a.kO c).cell 0)),(uq ((a.kO c).cell 1)),(uq ((a.kO c).cell 2)),(uq ((a.kO c).cell 3)),(uq ((a.kO c).cell 4)),(uq ((a.kO c).cell 5)),(uq ((a.kO c).cell 6)),(uq ((a.kO c).cell 7)),(uq ((a.kO c).cell 8)),(uq ((a.kO c).cell 9)),(uq ((k.kO c).cell 11)),(uq ((k.kO c).cell 12))⟩) ?_;iterate 1 refine wG ?_
 refine KB ?_;have a5:=ZC (QB Y a1) (show w.heap.size<=i.drew.heap.size from j.size);have a6:=ZC a0 (show w.heap.size<=w1.heap.size from AA j.size b.size);go_wp2_with fail;go_ret;refine⟨_,_,_,rfl,AA j.size c.size,Blk.new _ _ _,KD a5 _,KD a6 _,(j.tO c).alloc _⟩
section
open Go.RowKit Go.Shelf
attribute [local go_sem] AZ
theorem Xn {a b c d e f i j k l m n o:Value} (h:Blk w g t #[a,b,c,d,e,f,i,j,k,l,m,n,o]) :
 cl w g a/\cl w (aq g 1) b/\cl w (aq g 2) c/\cl w (aq g 3) d/\cl w (aq g 4) e/\cl w (aq g 5) f/\cl w (aq g 6) i/\cl w (aq g 7) j/\cl w (aq g 8) k/\cl w (aq g 9) l/\cl w (aq g 10) m/\cl w (aq g 11) n/\cl w (aq g 12) o:=
 ⟨uq (h.cell 0),uq (h.cell 1),uq (h.cell 2),uq (h.cell 3),uq (h.cell 4),uq (h.cell 5),uq (h.cell 6),uq (h.cell 7),uq (h.cell 8),uq (h.cell 9),uq (h.cell 10),uq (h.cell 11),uq (h.cell 12)⟩
def KE (W:World) (c d g:Nat):Prop:=Blk W c 471 #[pq d,pq g,zz,zz,ii 1,zz,ii 1,zz,zz,ii 1,zz,ii 1,zz]
theorem QAZ (w:World) (d g:Nat) :
 Calls prog 408 #[pq d,pq g,.agg #[zz,zz,ii 1,zz,ii 1]] w fun e w'=>∃ c,e=.returned (pq c)/\KE w' c d g/\w.heap.size<=c/\kz w w':=by
 go_enter func408,ntmps408
 go_wp2
 go_ret;exact⟨_,rfl,Blk.new1 _ _ _ _,sq,(kq.alloc _).alloc _⟩
theorem YAX (a:KE w c d g):cq 413 #[pq c] w zz:=by
 unfold KE at a;have b:=(Xn a).2.2.2.2.2.2.2.2.2.2.2.2;go_enter func413,ntmps413
 go_wp2
 go_ret;exact⟨rfl,rfl⟩
theorem VAc (a:KE w c d g):cr 412 #[pq c] w (.agg #[zz,zz,ii 1,zz,ii 1]):=by
 unfold KE at a;obtain⟨b,e,f,h,i,j,k,l,m,n,o,p,r⟩:=Xn a;have s:=a.lt;go_enter func412,ntmps412
 go_wp2
 exact Af (v:=.agg #[zz,zz,ii 1,zz,ii 1]) (by simp[results,results412,go_sem]) rfl ⟨rfl,kq.alloc _⟩
theorem KAn (n:Nat) (v:Value) (w:World) (a:v.oneCell'=true) :
 CallsIn Fence.wide n prog 409 #[v] w fun e w'=>e=.returned (.func (.func 441) #[] #[pq w.heap.size])/\w'=w.alloc (.cells #[v] 448):=by
 refine(AR (n:=n)).2 ?_;go_enter func409,ntmps409
 go_wp2
 go_ret;exact⟨rfl,rfl⟩
theorem VAH (h:KE W c d g) :
 KE (((((W.setCell (aq c 7) (.int .i64 0)).setCell (aq c 8) (.int .i64 0)).setCell (aq c 9) (.int .i64 1)).setCell (aq c 10) (.int .i64 0)).setCell (aq c 11) (.int .i64 1)) c d g /\
 Keep [c] W (((((W.setCell (aq c 7) (.int .i64 0)).setCell (aq c 8) (.int .i64 0)).setCell (aq c 9) (.int .i64 1)).setCell (aq c 10) (.int .i64 0)).setCell (aq c 11) (.int .i64 1)):=by
 unfold KE at *;have a:=((((h.set 7 (.int .i64 0)).set 8 (.int .i64 0)).set 9 (.int .i64 1)).set 10 (.int .i64 0)).set 11 (.int .i64 1);simp only[PU] at a;exact⟨a,(((((Keep.refl [c] W).sc c 7).sc c 8).sc c 9).sc c 10).sc c 11⟩
theorem QAU (h:KE W c d g):KE (W.setCell (aq c 12) (.int .i64 0)) c d g/\Keep [c] W (W.setCell (aq c 12) (.int .i64 0)):=by
 unfold KE at *;have a:=h.set 12 (.int .i64 0);simp only[PU] at a;exact⟨a,(Keep.refl [c] W).sc c 12⟩
theorem KAY {F:Fence} {P:Program} {c:Code} {Q:Exit->Act->World->Prop} {a:Act} (h:c.wpIn F n P (KBk Q) a w):c.wpIn F n P Q a w:=
 Dv h (fun e a w h=>by cases e <;> first | exact h | exact h.elim)
theorem QBn {P X:World->Nat->Nat->Prop} {G:Prop} (f:(∀ a b c,P a b c->X a b c)->G) (r:∀ a b c,P a b c->X a b c):G:=f r
def ChS (cb c d g:Nat) (W:World):Prop:=W.cell? cb=some (.pointer (some c))/\cl W c (pq d)/\cl W (aq c 1) (pq g)/\cl W (aq c 7) zz/\cl W (aq c 8) zz/\cl W (aq c 9) (ii 1)/\cl W (aq c 10) zz/\cl W (aq c 11) (ii 1)
theorem ChS.of (h:KE W c d g) (a:Boxed W cb 448 (.pointer (some c))):ChS cb c d g W:=by
 unfold KE at h;obtain⟨b,e,m,n,o,p,r,f,i,j,k,l,s⟩:=Xn h;exact⟨a.cell,b,e,f,i,j,k,l⟩
structure ChP (w w4:World) (N cb c d g:Nat) (V:World) (s b:Nat):Prop where
 ch:KE V c d g
 cbx:Boxed V cb 448 (.pointer (some c))
 more:Blk V N 4 #[.bool true]
 scan:JM V s d g
 box:Boxed V b 274 (.pointer none)
 kept:kz w4 V
 sl:w4.heap.size<=s
 bl:w4.heap.size<=b
theorem JAf (h:Blk w g t cs) (o n:Nat) (a:o+n<=cs.size):w.there g o n:=fun j b=>by
 rw[h.cell,DC Z];exact⟨rfl,h.frozen _⟩
theorem QAR {o:Nat} (a c d e f:Value) (g:∀ u∈[a,c,d,e,f],u.oneCell'=true) (h:W.there b o 5):(Instr.storeAt 49 (.pointer (some (aq b o))) (.agg #[a,c,d,e,f])).run prog W=.ok () (W.setCells b o [a,c,d,e,f]):=
 DZ W b o 49 #[a,c,d,e,f] (uq h) (by kernel_rfl) (DB g)
theorem XAM (n:Nat) (v:Value) (hv:v.oneCell'=true) (hb:Boxed w cb 448 (.pointer (some c))) (hs:KE w c d g) (hg:GeomAt w g B) (h:DiskAt w base d F D) (bh:D.off=false) (hn:D.n=198+4*pgs B) (hf:D.faults[6+4*pgs B]? = some false) (hz:seg 64 D.now (6+4*pgs B)=List.replicate 64 0) (bi:c∉F) (bj:c≠g) (aa:cb≠c) :
 CallsIn Fence.wide n prog 441 #[v,pq cb] w fun e w'=>(∃ u,e=.returned u)/\KE w' c d g/\Keep [c] w w':=by
 refine callsIn_of_wp_marks func441 rfl trivial ?_ rfl;simp only[ntmps441,PL,Nat.reduceAdd,Nat.reduceSub];have ao:=KA hb ((Keep.refl [] _).alloc (.cells #[v] 427)) sq;have bk:=hb.cell;have P:=hb.lt;have ap:Keep [c] w (w.alloc (.cells #[v] 427)):=kq.alloc _;have ar:KE (w.alloc (.cells #[v] 427)) c d g:=hs.kO (kq.alloc _)
 gi_wp2
 generalize (w.alloc (.cells #[v] 427))=w1 at *;clear bk P;have ab:=KA ao (Keep.refl [] w1).drew sq;have ac:KE w1.drew c d g:=ar.kO (Keep.refl [] w1).drew;have q0:=ab.cell;have C:=id ac;unfold KE at C;obtain⟨bl,bm,c2,au,c4,c5,c6,c7,c8,c9,bn,bo,a2⟩:=Xn C;refine KJ (Br.2 ?_);refine ZT (fun W=>cl W cb (pq c)/\cl W (aq c 2) zz/\cl W (aq c 3) zz/\cl W (aq c 4) (ii 1)/\cl W (aq c 5) zz/\cl W (aq c 6) (ii 1)) 9 [[0,1,2,3,4,5,6,7],[8]] ⟨q0,c2,au,c4,c5,c6⟩ ?_;simp only[PI];iterate 8 refine wG ?_
 have J:=ap.drew;have f7:=C.frozen 7;have f8:=C.frozen 8;have f9:=C.frozen 9;have bp:=C.frozen 10;have bq:=C.frozen 11;have br:=C.lt;obtain⟨i,E⟩:=VAH ac;have a3:=KA ab E (uq aa);have ad:=id i;unfold KE at ad;obtain⟨e0,e1,e2,e3,e4,e5,e6,e7,e8,e9,bs,bt,bu⟩:=Xn ad;have av:=JB (show _/\_/\_/\_/\_/\_ from ⟨a3.cell,e2,e3,e4,e5,e6⟩);clear e0 e1 e2 e3 e4 e5 e6 e7 e8 e9 bs bt bu;refine YB rq (fun K k=>?_);refine Kh _ _ _ rfl _ _ rfl rfl (QAR (.int .i64 0) (.int .i64 0) (.int .i64 1) (.int .i64 0) (.int .i64 1) (by simp[Value.oneCell']) (JAf C 7 5 sq)) ?_;refine k _ _ (JA av) ?_
 try simp only[Act.put,PU]
 refine KB ?_;have a8:=J.trans E (fun x j=>.inl j);replace i:KE (w1.drew.setCells c 7 [.int .i64 0,.int .i64 0,.int .i64 1,.int .i64 0,.int .i64 1]) c d g:=i;replace a3:Boxed (w1.drew.setCells c 7 [.int .i64 0,.int .i64 0,.int .i64 1,.int .i64 0,.int .i64 1]) cb 448 (.pointer (some c)):=a3;replace a8:Keep [c] w (w1.drew.setCells c 7 [.int .i64 0,.int .i64 0,.int .i64 1,.int .i64 0,.int .i64 1]):=a8;clear av ad E J C q0 bl bm c2 au c4 c5 c6 c7 c8 c9 bn bo a2 f7 f8 f9 bp bq br ac ab ap ar ao;generalize w1.drew.setCells c 7 [.int .i64 0,.int .i64 0,.int .i64 1,.int .i64 0,.int .i64 1]=w2 at *;obtain⟨H,m⟩:=QAU i;have a2:cl w2 (aq c 12) zz:=by unfold KE at i;exact(Xn i).2.2.2.2.2.2.2.2.2.2.2.2
 have ae:w2.frozen? ⟨c,12,none⟩=false:=by unfold KE at i;exact i.frozen 12
 have X:=KA a3 m (uq aa);have Y:=a8.trans m (fun x j=>.inl j);go_wp2_with fail;clear a2 ae m a3 i a8;generalize w2.setCell (aq c 12) (.int .i64 0)=w3 at *
 gi_wp2
 have cf:w.heap.size<=w3.heap.size:=Y.size;have a4:=Blk.new w3 4 #[.bool true];have a:=(Keep.refl [] w3).alloc (.cells #[.bool true] 4);replace H:KE (w3.alloc (.cells #[.bool true] 4)) c d g:=H.kO a;replace X:=KA X a sq;replace Y:=Y.tO a;have af:w3.heap.size≠c:=fun e=>by unfold KE at H;exact Blk.ne_ a4 H (by decide) e
 have bv:w3.heap.size≠cb:=fun e=>by have f:=a4;rw[e] at f;exact Blk.ne_ f X (by decide) rfl
 clear a;generalize w3.alloc (.cells #[.bool true] 4)=w4 at *;generalize w3.heap.size=N at *;refine wpIn_loop_rounds 2 ?_;rw[roundsIn_succ];have bw:cl w4 N (.bool true):=uq (a4.cell 0)
 gi_wp2
 clear bw;have aw:=fun W=>KAr W d g;refine KJ (Br.2 ?_);refine ZR (ChS cb c d g) 14 (.held 0 (.held 1 (.held 2 (.held 3 (.held 4 (.held 5 (.held 6 (.held 7 (.held 8 (.held 9 (.held 10 (.held 11 (.two 12 (.loud 13 .nil) 13 (.loud 12 .nil)))))))))))))) (ChS.of (Blk.kO H (Keep.refl [] w4).drew) (KA X (Keep.refl [] w4).drew sq)) ?_;simp only[RT.pick,PJ];iterate 12 (refine wpR_held ?_ rq ?_ ?_;rotate_left;(focus(rintro W ⟨cg,ch,ci,cj,ck,cm,cn,co⟩;go_simp;try with_reducible rfl));simp only[Act.put,PU])
 refine @QBn (ChP w w4 N cb c d g) ?XA _ (fun ax=>?_) ?_;rotate_left
 . have L:kz w4 w4.drew:=(Keep.refl [] w4).drew
   have ag:KE w4.drew c d g:=H.kO L;have ah:=KA X L sq;have ai:=a4.kO L;generalize w4.drew=V0 at L ag ah ai ⊢;refine wpR_two ?_ ?_
   . refine wpR_loud rq fun K k=>?_
     go_wp2_with (refine(aw _).mono ?_;rintro e Q ⟨s,rfl,aj,ay,r⟩);have a5:=L.tO r;have R:KE Q c d g:=ag.kO r;have S:=KA ah r sq;refine k _ _ (ChS.of R S) ?_
     try simp only[Act.put,PU]
     refine wpR_loud rq fun K k=>?_;go_wp2_with fail;have a:=(Keep.refl [] Q).alloc (.cells #[.pointer none] 274);have A:=Boxed.new Q 274 (.pointer none);have P:=a5.size;generalize Q.alloc (.cells #[.pointer none] 274)=V2 at a A ⊢;generalize Q.heap.size=b at A P ⊢;refine k _ _ (ChS.of (Blk.kO R a) (KA S a sq)) ?_
     try simp only[Act.put,PU]
     refine wpR_nil ?_;exact ax V2 s b ⟨Blk.kO R a,KA S a sq,(ai.kO r).kO a,Blk.kO aj a,A,a5.tO a,AA L.size ay,P⟩
   refine wpR_loud rq fun K k=>?_;go_wp2_with fail;have a:=(Keep.refl [] V0).alloc (.cells #[.pointer none] 274);have A:=Boxed.new V0 274 (.pointer none);have P:=L.size;have az:=a.size;generalize V0.alloc (.cells #[.pointer none] 274)=V2 at a A az ⊢;generalize V0.heap.size=b at A P az ⊢;have R:KE V2 c d g:=ag.kO a;have S:=KA ah a sq;refine k _ _ (ChS.of R S) ?_
   try simp only[Act.put,PU]
   refine wpR_loud rq fun K k=>?_;go_wp2_with (refine(aw _).mono ?_;rintro e Q ⟨s,rfl,aj,ay,r⟩);refine k _ _ (ChS.of (R.kO r) (KA S r sq)) ?_
   try simp only[Act.put,PU]
   refine wpR_nil ?_;exact ax Q s b ⟨Blk.kO R r,KA S r sq,(ai.kO a).kO r,aj,KA A r sq,(L.tO a).tO r,Z,P⟩
 rintro V s b ⟨q1,q2,q3,I,M,q6,q7,q8⟩;have b0:b≠N:=fun e=>by have f:=M;rw[e] at f;exact Blk.ne_ f q3 (by decide) rfl
 have b1:b≠c:=fun e=>by unfold KE at q1;have f:=M;rw[e] at f;exact Blk.ne_ f q1 (by decide) rfl
 have bx:b≠cb:=fun e=>by have f:=M;rw[e] at f;exact Blk.ne_ f q2 (by decide) rfl
 have b2:b≠s:=fun e=>by unfold JM at I;have f:=M;rw[e] at f;exact Blk.ne_ f I (by decide) rfl
 have b3:N≠s:=fun e=>by unfold JM at I;have f:=q3;rw[e] at f;exact Blk.ne_ f I (by decide) rfl
 have bz:c≠s:=fun e=>by unfold JM at I;unfold KE at q1;have f:=q1;rw[e] at f;exact Blk.ne_ f I (by decide) rfl
 have ca:cb≠s:=fun e=>by unfold JM at I;have f:=q2;rw[e] at f;exact Blk.ne_ f I (by decide) rfl
 have b4:Keep [c] w V:=Y.tO q6;have cp:w.heap.size<=w4.heap.size:=Y.size;have a6:Keep [b,N] V ((V.setCell b (.pointer (some s))).setCell N (.bool false)):=((Keep.refl [b,N] V).sc b 0).sc N 0;have r1:KE ((V.setCell b (.pointer (some s))).setCell N (.bool false)) c d g:=Blk.keep q1 a6 (by simp;exact⟨fun e=>b1 e.symm,fun e=>af e.symm⟩);have r2:=KA q2 a6 (by simp;exact⟨fun e=>bx e.symm,fun e=>bv e.symm⟩);have O:JM ((V.setCell b (.pointer (some s))).setCell N (.bool false)) s d g:=Blk.keep I a6 (by simp;exact⟨fun e=>b2 e.symm,fun e=>b3 e.symm⟩)
 have r3:Blk ((V.setCell b (.pointer (some s))).setCell N (.bool false)) N 4 #[.bool false]:=by
  have f:=(q3.keep ((Keep.refl [b] V).setCell (p:=⟨b,0,none⟩) (.inl sq) (.pointer (some s))) (by simpa using fun e=>b0 e.symm)).set 0 (.bool false);simpa using f
 have r5:Boxed ((V.setCell b (.pointer (some s))).setCell N (.bool false)) b 274 (.pointer (some s)):=KA (M.set (.pointer (some s))) ((Keep.refl [N] _).sc N 0) (uq b0);have z0:=M.cell;have z1:=M.frozen;have z2:cl V N (.bool true):=uq (q3.cell 0);have z3:=q3.frozen 0;have b5:=XAQ (n-1) (.pointer (some s)) ((V.setCell b (.pointer (some s))).setCell N (.bool false)) rfl;go_wp2_with fail;gi_wp2_with (refine⟨trivial,fun h=>by simp[Fence.wide] at h,?_⟩;refine b5.mono ?_;clear b5;rintro e w' ⟨rfl,rfl⟩);have ak:Keep [c] w ((V.setCell b (.pointer (some s))).setCell N (.bool false)):=b4.trans a6 (fun x j=>.inr (by simp at j;rcases j with rfl | rfl <;> omega));have b6:((V.setCell b (.pointer (some s))).setCell N (.bool false)).heap.size=V.heap.size:=sq;clear z0 z1 z2 z3 q1 q2 q3 I M q6 a6 b4 H X a4 Y;generalize (V.setCell b (.pointer (some s))).setCell N (.bool false)=V2 at *;obtain⟨T,a7⟩:=ex (V2.alloc (.cells #[pq s] 274));rw[<- a7];have a:kz V2 T:=by rw[a7];exact(Keep.refl [] V2).alloc _
 have A:Boxed T V.heap.size 274 (.pointer (some s)):=by rw[a7,<- b6];exact Boxed.new V2 _ _
 have s3:T.heap.size=V2.heap.size+1:=by rw[a7];simp
 clear a7;replace r1:KE T c d g:=Blk.kO r1 a;replace r2:=KA r2 a sq;replace O:JM T s d g:=Blk.kO O a;replace r3:=r3.kO a;replace r5:=KA r5 a sq;have m:Keep [c] w T:=ak.tO a;have cq:s<T.heap.size:=by unfold JM at O;exact O.lt
 have cr:w.heap.size<=V2.heap.size:=ak.size
 refine Zm (n:=n) (gf:=381) (lb:=#[pq V.heap.size]) rfl (enters_of func381 (by kernel_rfl) rfl) [s] (fun x j=>by simp at j;omega) (G:=(fun W=>JM W s d g))
  (fun W l o cc h hl cd ho=>YF cc h cd ho) (fun l W a9 _=>?_) (fun D' W cs hk al a0=>?_)
 . refine(AR (n:=n-1)).2 ((JAU (.func (.yield l) #[] #[]) (B:=B) (base:=base) (F:=F) (D:=D) (KA A a9 sq) (Blk.kO O a9) ?_ ?_ bh hn hf hz ?_ ?_ ?_).mono ?_)
   . exact(hg.keep m (by simpa using fun e=>bj e.symm)).kO a9
   . exact(h.keep m (fun x j hm=>by simp at hm;subst hm;exact bi j)).kO a9
   . intro hm;have:=h.lt s hm;omega
   . intro e;have:=hg.lt;omega
   . have:=q7;intro e;subst e;unfold JM at O;exact Blk.ne_ A O (by decide) rfl
   rintro e w' ⟨f,h2,h3⟩;exact⟨f,h3,h2⟩
 have u1:KE W c d g:=Blk.keep r1 hk (uq bz);have u2:=KA r2 hk (uq ca);have u3:=r3.keep hk (uq b3);have u5:=KA r5 hk (uq b2);have b7:Keep [c] w W:=m.trans hk iq;have ct:w.heap.size<=D':=Z;have z:cl W N (.bool false):=uq (u3.cell 0)
 have b8:D'≠c:=fun e=>by
  unfold KE at u1;rw[e] at a0;rw[show W.heap[c]? = _ from u1] at a0;cases a0
 clear r1 r2 r3 O r5 m hk A s3 a ak b6
 gi_wp2
 clear z;refine KAY (Br.2 ?_);have b9:=fun a1 (am:kz W a1)=>YAn (Blk.kO al am);have ba:=fun a1 (am:kz W a1)=>JAn (Blk.kO al am);have J:kz W W.drew:=(Keep.refl [] W).drew;refine ZT (fun a1=>cl a1 cb (pq c)/\cl a1 b (pq s)) 9 [[0,1,2,4],[3],[5,6,7],[8]] ⟨(KA u2 J sq).cell,(KA u5 J sq).cell⟩ ?_;simp only[PI];iterate 4 refine wG ?_
 refine YB rq (fun K k=>?_);go_wp2_with (refine(b9 _ J).mono ?_;rintro e U ⟨rfl,a5⟩);have y:=J.tO a5;refine k _ _ (⟨(KA u2 y sq).cell,(KA u5 y sq).cell⟩) ?_
 try simp only[Act.put,PU]
 refine YB rq (fun K k=>?_);go_wp2_with (refine(ba _ y).mono ?_;rintro e cu ⟨rfl,rfl⟩);refine k _ _ (⟨(KA u2 y sq).cell,(KA u5 y sq).cell⟩) ?_;iterate 2 refine wG ?_
 have v1:KE U c d g:=Blk.kO u1 y;obtain⟨i,E⟩:=VAH v1;have v2:=KA (KA u2 y sq) E (uq aa);have v5:=KA (KA u5 y sq) E (uq b1);have v3:=(u3.kO y).keep E (uq af);have bb:=JB (show _/\_ from ⟨v2.cell,v5.cell⟩);refine YB rq (fun K k=>?_);refine Kh _ _ _ rfl _ _ rfl rfl (QAR (.int .i64 0) (.int .i64 0) (.int .i64 1) (.int .i64 0) (.int .i64 1) (by simp[Value.oneCell']) (JAf (t:=471) v1 7 5 sq)) ?_;refine k _ _ (JA bb) ?_
 try simp only[Act.put,PU]
 refine KB ?_;have bc:Keep [c] w (U.setCells c 7 [.int .i64 0,.int .i64 0,.int .i64 1,.int .i64 0,.int .i64 1]):=(b7.tO y).trans E (fun x j=>.inl j);replace i:KE (U.setCells c 7 [.int .i64 0,.int .i64 0,.int .i64 1,.int .i64 0,.int .i64 1]) c d g:=i;replace v2:Boxed (U.setCells c 7 [.int .i64 0,.int .i64 0,.int .i64 1,.int .i64 0,.int .i64 1]) cb 448 (.pointer (some c)):=v2;replace v3:Blk (U.setCells c 7 [.int .i64 0,.int .i64 0,.int .i64 1,.int .i64 0,.int .i64 1]) N 4 #[.bool false]:=v3
 have an:(U.setCells c 7 [.int .i64 0,.int .i64 0,.int .i64 1,.int .i64 0,.int .i64 1]).heap[D']? = some (.deferred (some [])):=
  ((y.zero.trans E (fun x j=>.inl j)).block D' (AI.1 a0).1 (uq b8)).trans a0
 clear bb u1 u2 u3 u5 b7 b9 ba J a5 y v1 E v5 a0 al;generalize U.setCells c 7 [.int .i64 0,.int .i64 0,.int .i64 1,.int .i64 0,.int .i64 1]=W3 at *;obtain⟨H,m⟩:=QAU i;have a2:cl W3 (aq c 12) zz:=by unfold KE at i;exact(Xn i).2.2.2.2.2.2.2.2.2.2.2.2
 have ae:W3.frozen? ⟨c,12,none⟩=false:=by unfold KE at i;exact i.frozen 12
 go_wp2_with fail;have v4:Blk (W3.setCell (aq c 12) (.int .i64 0)) N 4 #[.bool false]:=v3.keep m (uq af);have bd:=bc.trans m (fun x j=>.inl j);have bf:(W3.setCell (aq c 12) (.int .i64 0)).heap[D']? = some (.deferred (some [])):=(m.block D' (AI.1 an).1 (uq b8)).trans an;clear a2 ae m v3 v2 an i bc;generalize W3.setCell (aq c 12) (.int .i64 0)=W4 at *;simp only[KBk];have z:cl W4 N (.bool false):=uq (v4.cell 0)
 gi_wp2
 rw[show (1:Nat)=0+1 from rfl,roundsIn_succ];have a:=(Keep.refl [] W4).alloc (.cells #[.bool false] 4);have v6:=Blk.new W4 4 #[.bool false];have v7:KE (W4.alloc (.cells #[.bool false] 4)) c d g:=Blk.kO H a;have ce:=bd.tO a;have bg:(W4.alloc (.cells #[.bool false] 4)).heap[D']? = some (.deferred (some [])):=a.heap_same bf;clear z a v4 H bd bf;generalize W4.alloc (.cells #[.bool false] 4)=W5 at *;generalize W4.heap.size=N5 at *;have z:cl W5 N5 (.bool false):=uq (v6.cell 0)
 gi_wp2
 refine⟨sq,.inl ⟨_,_,rfl,run_takeDeferred bg,?_⟩⟩;refine⟨.tuple #[],?_,⟨_,rfl⟩,YF _ v7 bg rfl,ce.putObj Z _⟩;simp[results,results441,go_sem]
end
def Ze (l:List Int) (k:Nat):List Int:=(l.drop (k*15)).take 15
theorem XV (l:List Int) (k:Nat):(Ze l k).length=min 15 (l.length-k*15):=by simp[Ze]
theorem JAL (h:x∈Ze l k):x∈l:=EA (CI h)
theorem QAf (h:k<5):IntKind.i64.wrap (((k:Nat):Int)*15)=((k:Nat):Int)*15:=by rw[AK];omega
theorem KBE (h:k<5):IntKind.i64.wrap (((k:Nat):Int)+1)=((k:Nat):Int)+1:=by rw[AK];omega
theorem JAQ (h:k<5):IntKind.i64.wrap ((((k:Nat):Int)+1)*15)=(((k:Nat):Int)+1)*15:=by rw[AK];omega
theorem ZBn (h:PagedAt w base p F l ds) (k:Nat) (z:k<ds.length) :
 Calls prog 393 #[pq p,k] w fun e w'=>∃ A c,e=.returned (.slice A (Ze l k).length c)/\Rd w A (Ze l k).length (VM (Ze l k))/\1<=(Ze l k).length/\w'=w.drew:=by
 have o:=YAB h;obtain⟨L,U,h⟩:=h;obtain⟨g,c,u,B,rfl,rfl,C,D,E⟩:=h.forms;obtain⟨r,s,G⟩:=h.cells;have H:=h.pos;have I:=h.few;have b:=h.pages;have d:15*pgs l.length<=l.length+14/\pgs l.length<=5:=by unfold pgs;omega
 rw[<- b] at d
 have t:l.length<=c:=by
  rcases h.rl.2 with⟨a,_⟩ | ⟨J,cap,K,a,d,M,v,N,O,P⟩
  . cases a
  cases a;exact v
 obtain⟨hi,y,Q,R,S,f⟩:∃ hi:Nat,min (((k:Nat)+1)*15:Int) (l.length:Nat)=(hi:Nat)/\hi<=l.length/\k*15<hi/\hi<=k*15+15/\hi-k*15=min 15 (l.length-k*15):=⟨min ((k+1)*15) l.length,Z,Z,Z,Z,Z⟩;have i:=((Rd.of_own h.rl).cutA (k:=k*15) (cap:=c) Z t).take (k:=hi-k*15) Z;have j:(Ze l k).length=hi-k*15:=by rw[XV,f]
 have m:((VM l).drop (k*15)).take (hi-k*15)=VM (Ze l k):=by
  unfold Ze VM;rw[Df,List.map_drop,List.take_eq_take_iff];simp;omega
 rw[m] at i;rw[j];have T:((k:Nat):Int)<5:=Z;have V:((k:Nat):Int)<(ds.length:Nat):=Z;clear m j b h f;generalize l.length=n at *;generalize ds.length=q at *;go_enter func393,ntmps393;go_wp2_with (apply mq o);refine ZT (fun w'=>cl w' p (.slice (some g) n c)/\cl w' (aq p 1) (ii 15)) 23 [[0,1,2,3,4,5,6,7,8,9,10,11,12,13,14,15,16,17,18,19,20,21,22]] ⟨r,s⟩ ?_;simp only[PI];iterate 23 refine wG ?_
 refine KB ?_;go_wp2_with (refine QQ rfl (.tmp 16) (some (.tmp 22)) (some (.tmp 35)) rfl (.slice (cutA (some g) (k*15) c) (hi-k*15) (c-k*15)) ?hrun ?_)
 case hrun=>
  intro W;have:=elemInts.run_lh (some g) n c .i64 .i64 (((k:Nat):Int)*15) (hi:Nat) Z Z Z W;rw[show ((hi:Nat):Int).toNat-(((k:Nat):Int)*15).toNat=hi-k*15 from Z,show (((k:Nat):Int)*15).toNat=k*15 from Z] at this;show Sem.run prog (Instr.sliceAt 53 (.slice (some g) n c) (some (.int .i64 (IntKind.i64.wrap (((k:Nat):Int)*15)))) (some (.int .i64 (min (IntKind.i64.wrap (IntKind.i64.wrap (((k:Nat):Int)+1)*15)) (n:Nat)))) none) W=_;rw[QAf Z,KBE Z,JAQ Z,y];exact this
 go_ret;exact⟨_,_,rfl,i,Z,rfl⟩
theorem Zw (h:PagedAt w base p F l ds) (k:Nat) (f:k<ds.length) :
 Calls prog 339 #[pq p,k] w fun e w'=>∃ u,e=.returned u/\w'.ownsRow w.heap.size 3 1 u (Ze l k).length (VM (Ze l k))/\kz w w':=by
 have a:=ZBn h k f;have j:(Ze l k).length<=15:=by rw[XV];omega
 generalize Ze l k=l2 at *;go_enter func339,ntmps339
 go_wp2_with (first
  | (go_at_call 393;refine a.mono ?_;clear a;rintro e w' ⟨A,c,rfl,g,m,rfl⟩;(have b:=Kd c l2 g.drew Z))
  | (go_at_call 219;refine b.mono ?_;clear b;rintro e w' ⟨V,rfl,d,i⟩;(have n:=XAb d)))
 go_ret;exact⟨_,rfl,d,kq.drew.tO i⟩
theorem YAL {I:PImage} (h:ImageAt w base m F I) (a:Bool) (k:Nat) (d:k<(if a then I.od else I.bd).length) :
 Calls prog 222 #[pq m,.bool a,k] w fun e w'=>∃ u,e=.returned u/\w'.ownsRow w.heap.size 3 1 u (Ze (if a then I.ol else I.bl) k).length (VM (Ze (if a then I.ol else I.bl) k))/\kz w w':=by
 obtain⟨b,c,i,j,h⟩:=h;have l:=JN w base m b c F i j I h a
 have f:Calls prog 339 #[pq (if a then c else b),k] w fun e w'=>∃ u,e=.returned u/\w'.ownsRow w.heap.size 3 1 u (Ze (if a then I.ol else I.bl) k).length (VM (Ze (if a then I.ol else I.bl) k))/\kz w w':=by
  cases a
  . exact Zw h.b k d
  exact Zw h.o k d
 generalize Ze (if a then I.ol else I.bl) k=l2 at *;generalize (if a then c else b)=pt at *;go_enter func222,ntmps222
 go_wp2_with (first
  | (go_at_call 230;apply mq l)
  | (go_at_call 339;refine f.mono ?_;clear f;rintro e w' ⟨V,rfl,g,n⟩;(have o:=XAb g)))
 go_ret;exact⟨_,rfl,g,n⟩
theorem YBn (g c:Nat) {U:Value} (h:PagedIs w base p (.slice (some g) l.length c) U F l ds) (k:Nat) (t:k<ds.length) :
 Calls prog 393 #[pq p,k] w fun e w'=>e=.returned (.slice (some (aq g (k*15))) (Ze l k).length (c-k*15))/\w'=w.drew:=by
 have j:=YAB (w:=w) (base:=base) (p:=p) (F:=F) (l:=l) (ds:=ds) ⟨_,_,h⟩;obtain⟨m,o,u⟩:=h.cells;have v:=h.pos;have y:=h.few;have b:=h.pages;have d:15*pgs l.length<=l.length+14/\pgs l.length<=5:=by unfold pgs;omega
 rw[<- b] at d
 have z:l.length<=c:=by
  rcases h.rl.2 with⟨a,_⟩ | ⟨A,cap,B,a,d,C,r,D,E,G⟩
  . cases a
  cases a;exact r
 obtain⟨hi,s,H,I,J,f⟩:∃ hi:Nat,min (((k:Nat)+1)*15:Int) (l.length:Nat)=(hi:Nat)/\hi<=l.length/\k*15<hi/\hi<=k*15+15/\hi-k*15=min 15 (l.length-k*15):=⟨min ((k+1)*15) l.length,Z,Z,Z,Z,Z⟩;have i:(Ze l k).length=hi-k*15:=by rw[XV,f]
 rw[i];have K:((k:Nat):Int)<5:=Z;have L:((k:Nat):Int)<(ds.length:Nat):=Z;have M:cutA (some g) (k*15) c=some ⟨g,k*15,none⟩:=by rw[ZAu _ _ _ _ Z,A6]
 clear i b h f;generalize l.length=n at *;generalize ds.length=q at *;go_enter func393,ntmps393;go_wp2_with (apply mq j);refine ZT (fun w'=>cl w' p (.slice (some g) n c)/\cl w' (aq p 1) (ii 15)) 23 [[0,1,2,3,4,5,6,7,8,9,10,11,12,13,14,15,16,17,18,19,20,21,22]] ⟨m,o⟩ ?_;simp only[PI];iterate 23 refine wG ?_
 refine KB ?_;go_wp2_with (refine QQ rfl (.tmp 16) (some (.tmp 22)) (some (.tmp 35)) rfl (.slice (cutA (some g) (k*15) c) (hi-k*15) (c-k*15)) ?hrun ?_)
 case hrun=>
  intro W;have:=elemInts.run_lh (some g) n c .i64 .i64 (((k:Nat):Int)*15) (hi:Nat) Z Z Z W;rw[show ((hi:Nat):Int).toNat-(((k:Nat):Int)*15).toNat=hi-k*15 from Z,show (((k:Nat):Int)*15).toNat=k*15 from Z] at this;show Sem.run prog (Instr.sliceAt 53 (.slice (some g) n c) (some (.int .i64 (IntKind.i64.wrap (((k:Nat):Int)*15)))) (some (.int .i64 (min (IntKind.i64.wrap (IntKind.i64.wrap (((k:Nat):Int)+1)*15)) (n:Nat)))) none) W=_;rw[QAf Z,KBE Z,JAQ Z,s];exact this
 go_ret;exact⟨rfl,rfl⟩
theorem QAe {e:TypeId} {v:Value} {xs:List Value} (h:w.ownsRow base e s v n xs) (a:v.ownBlock=some g) (b:w'.heap[g]? = w.heap[g]?):w'.ownsRow base e s v n xs:=by
 refine⟨h.1,?_⟩;rcases h.2 with h | ⟨c,cap,d,rfl,f,i,r⟩
 . exact .inl h
 simp[Value.ownBlock] at a;subst a;exact .inr ⟨c,cap,d,rfl,f,b.trans i,r⟩
theorem PagedIs.same {u a:Nat} (h:PagedIs w base p (.slice (some g) n c) (.slice (some u) m a) F l ds) (b:w'.heap[p]? = w.heap[p]?) (d:w'.heap[g]? = w.heap[g]?) (e:w'.heap[u]? = w.heap[u]?) :
 PagedIs w' base p (.slice (some g) n c) (.slice (some u) m a) F l ds:=
 ⟨b.trans h.blk,QAe h.rl (by simp[Value.ownBlock]) d,QAe h.rd (by simp[Value.ownBlock]) e,h.foot,h.base,h.pos,h.few,h.pages⟩
theorem QAc {a:Type} (L ys:List a) (o:Nat) (h:(L.drop o).take ys.length=ys):splice L o ys=L:=by
 have e:L=L.take o++(ys++(L.drop o).drop ys.length):=by
  conv=>lhs;rw[<- Bp o L,<- Bp ys.length (L.drop o),h]
 unfold splice
 conv=>rhs;rw[e]
 rw[List.drop_drop]
theorem ZAF (h:PagedAt w base p F l ds) (k:Nat) (C:k<ds.length) (D:ds[k]? = some false) (E:Nat) (m:n=(Ze l k).length) (Q:Rd w A n (VM (Ze l k))) :
 Calls prog 440 #[pq p,k,.slice A n E] w fun e w'=>e=.returned (.bool true)/\PagedAt w' base p F l ds/\Keep F w w':=by
 obtain⟨L,U,h⟩:=h;obtain⟨g,c,u,R,rfl,rfl,G,H,S⟩:=h.forms;have t:=YBn g c h k C;obtain⟨a7,a8,a9⟩:=h.cells;have T:=h.pages;have aa:=h.few;have o:15*pgs l.length<=l.length+14:=by unfold pgs;omega
 rw[<- T] at o;have V:(Ze l k).length=min 15 (l.length-k*15):=XV l k
 obtain⟨a,I,W,X⟩:∃ a:Array Value,Blk w g 3 a/\k*15+n<=a.size/\(a.toList.drop (k*15)).take n=VM (Ze l k):=by
  rcases h.rl.2 with⟨b,_⟩ | ⟨Y,cap,a,b,o,y,a0,hm,hs,z⟩
  . cases b
  cases b;refine⟨a,y,Z,?_⟩;have e:a.toList.take l.length=VM l:=uq z;unfold Ze VM at *;rw[Df,List.map_drop,<- e,List.drop_take,List.take_take]
  congr 1
  omega
 obtain⟨d,J,ab,K⟩:∃ d:Array Value,Blk w u 4 d/\k<d.size/\d[k]? = some (.bool false):=by
  rcases h.rd.2 with⟨b,_⟩ | ⟨Y,cap,a,b,o,y,a0,hm,hs,z⟩
  . cases b
  cases b;have e:a.toList.take ds.length=ds.map .bool:=uq z;refine⟨a,y,Z,?_⟩;have M:(a.toList.take ds.length)[k]? = some (.bool false):=by rw[e,Aa,D];rfl
  rw[List.getElem?_take_of_lt C] at M;simpa using M
 have ac:1<=n:=Z;have ad:n<=15:=Z;have ae:=JB m;rw[<- m] at t;have a1:(VM (Ze l k)).length=n:=by simp[VM,m]
 have a2:∀ v∈VM (Ze l k),v.oneCell'=true:=YAf _;generalize VM (Ze l k)=ys at *;clear m V o D;have af:((k:Nat):Int)<(ds.length:Nat):=Z;have a3:Blk w.drew g 3 a.toList.toArray:=uq I.drew;go_enter func440,ntmps440
 go_wp2_with (first
  | (go_at_call 393;refine t.mono ?_;clear t;rintro e w' ⟨rfl,rfl⟩)
  | (refine elemInts.wp_copy rfl (.tmp 21) (.tmp 22) rfl (some (aq g (k*15))) A n (c-k*15) n E rfl rfl g (k*15) a.toList 3 a3 (fun _=>rfl) (uq W) ys Q.drew (fun v hv=>a2 v (CI hv)) ?_
     intro f N r;have q2:cl f (aq p 2) (.slice (some u) ds.length R):=uq ((h.blk.drew.keep r (uq H)).cell 2);have s:=J.drew.keep r (by simpa using fun e=>G e.symm);have q3:cl f (aq u k) (.bool false):=(s.cell k).trans K;have q4:=s.frozen k;have ag:=s.lt))
 rw[AH Z,QAc _ _ _ (by rw[a1];exact X)] at N;go_ret;have O:=s.set k (.bool false)
 have a4:d.setIfInBounds k (.bool false)=d:=by
  apply Array.ext_getElem?;intro i;rw[Array.getElem?_setIfInBounds]
  split
  . subst_vars;exact K.symm
  rfl
 rw[a4] at O;have B:Keep [u] f (f.setCell (aq u k) (.bool false)):=kq.sc u k;have a5:=(h.blk.drew.keep r (uq H)).keep B (uq S);have a6:Blk (f.setCell (aq u k) (.bool false)) g 3 a:=uq (N.keep B (uq G));refine⟨rfl,⟨_,_,h.same (a5.trans h.blk.symm) (a6.trans I.symm) (O.trans J.symm)⟩,?_⟩;have P:=h.foot;exact((Keep.refl [] w).drew.zero.trans r (fun x j=>.inl (by rw[P];simp at j;simp[j,Value.ownBlock]))).trans B (fun x j=>.inl (by rw[P];simp at j;simp[j,Value.ownBlock]))
def YBH (over:Bool):Int:=if over then -1 else 0
theorem QAI (m p k a:Nat) (c:Bool) (zs:List Int) (f:zs.length=n) (D:1<=n/\n<=15) (L:n<=a) (g:∀ z∈zs,YBH c<=z/\z<4096) (h:World->Prop) (E:Rd w A n (VM zs))
 (F:cq 230 #[pq m,.bool c] w (pq p))
 (l:Calls prog 339 #[pq p,k] w fun e w'=>∃ u,e=.returned u/\w'.ownsRow w.heap.size 3 1 u n (VM zs)/\kz w w')
 (G:∀ W,kz w W->Calls prog 440 #[pq p,k,.slice A n a] W fun e w'=>e=.returned (.bool true)/\h w') :
 Calls prog 407 #[pq m,.bool c,k,.slice A n a] w fun e w'=>e=.returned (.bool true)/\h w':=by
 have d:=fun W=>elemInts.run_h A n a .i64 (n:Nat) Z Z W;simp only[BK] at d;obtain⟨M,N⟩:=D;have O:((n:Nat):Int)≠0:=Z;have H:=JB f;clear f;go_enter func407,ntmps407;rcases Bool.eq_false_or_eq_true c with r | r
 all_goals
  subst r;simp only[YBH,B8,Bt,Aj] at g
  go_wp2_with (first
   | (go_at_call 230;apply mq F)
   | (go_at_call 339;refine l.mono ?_;clear l;rintro e w1 ⟨u,rfl,I,s⟩;obtain⟨P,Q,rfl,_⟩:=ZB I)
   | (refine QQ rfl (.tmp 30) none (some (.tmp 31)) rfl (.slice A n a) d ?_))
  go_loopw [13,34] (fun _ i wr=>∃ j:Nat,j<=n/\i=.int .i64 j/\w1=wr) (fun _ i _=>n-(intOf i).toNat)
  case atStart=>exact⟨0,AS _,rfl,rfl⟩
  obtain⟨j,R,rfl,rfl⟩:=hrel;by_cases t:j<n
  . have S:((j:Nat):Int)<(n:Nat):=Z
    have v:j<zs.length:=by rw[JA H];exact t
    obtain⟨b,o,q,rfl,y,T,B⟩:=(E.keep s).at_ t;simp only[VM,Aa,AC v,Ao,Ae] at y;subst y;obtain⟨J,U⟩:=g _ (AQ v);generalize zs[j]=z at *;replace B:cl w1 (aq b (o+j)) (ii z):=B;have V:¬ z<_:=Int.not_lt.2 J;have X:¬ (4096:Int)<=z:=Z;go_wp2_with fail;go_roundw;case rel=>exact⟨j+1,Z,by go_num,trivial⟩
    case measure=>simp[intOf];omega
  obtain rfl:j=n:=Z;have C:=G _ s
  go_wp2_with (first
   | (refine QQ rfl (.tmp 48) none (some (.tmp 49)) rfl (.slice A j a) d ?_)
   | (go_at_call 440;refine C.mono ?_;clear C;rintro e w' ⟨rfl,K⟩))
  go_ret;exact⟨rfl,K⟩
theorem XAh {I:PImage} (h:ImageAt w base m F I) (b:Bool) (k:Nat) (j:k<(if b then I.od else I.bd).length) (B:(if b then I.od else I.bd)[k]? = some false) (i:Nat) (c:n=(Ze (if b then I.ol else I.bl) k).length) (C:1<=n) (D:n<=i) (l:Rd w A n (VM (Ze (if b then I.ol else I.bl) k))) :
 Calls prog 407 #[pq m,.bool b,k,.slice A n i] w fun e w'=>e=.returned (.bool true)/\ImageAt w' base m F I/\Keep F w w':=by
 obtain⟨o,p,r,s,h⟩:=h;have E:=JN w base m o p F r s I h b;have G:n<=15:=by rw[c,XV];omega
 obtain⟨K,H,J⟩:=h.ok;cases b
 . simp only[Aj,Bt] at *
   refine QAI m o k i false (Ze I.bl k) c.symm ⟨C,G⟩ D (fun z t=>H z (JAL t)) (fun w'=>ImageAt w' base m F I/\Keep F w w') l E (by rw[c];exact Zw h.b k j) (fun W d=>?_);have f:=h.kO d;apply (ZAF f.b k j B i c (l.keep d)).mono;rintro e w' ⟨rfl,u,g⟩;have v:Keep F W w':=g.sub (fun x a=>h.subB x a);exact⟨rfl,⟨o,p,r,s,⟨f.blk.keep g h.m1,u,f.o.keep g (fun x a y=>h.apart x y a),h.apart,h.m1,h.m2,h.foot,h.base,h.ok⟩⟩,d.zero.trans v (fun x a=>.inl a)⟩
 simp only[B8] at *;refine QAI m p k i true (Ze I.ol k) c.symm ⟨C,G⟩ D (fun z t=>J z (JAL t)) (fun w'=>ImageAt w' base m F I/\Keep F w w') l E (by rw[c];exact Zw h.o k j) (fun W d=>?_);have f:=h.kO d;apply (ZAF f.o k j B i c (l.keep d)).mono;rintro e w' ⟨rfl,u,g⟩;have v:Keep F W w':=g.sub (fun x a=>h.subO x a);exact⟨rfl,⟨o,p,r,s,⟨f.blk.keep g h.m2,f.b.keep g (fun x a y=>h.apart x a y),u,h.apart,h.m1,h.m2,h.foot,h.base,h.ok⟩⟩,d.zero.trans v (fun x a=>.inl a)⟩
theorem XAn (h:GeomAt w g B) (x:Int) (j:x<6+4*(pgs B:Nat)) :
 cr 133 #[pq g,ii x] w (.tuple #[zz,zz,.bool false]):=by
 have d:=segsG_is w g B h;have f:=fun W (i:kz w W)=>SectorsG_is W g B (h.kO i);have k:=(JD h.pos h.few).2;have b:=fun W=>VJ x ((6+4*pgs B:Nat)) ((198+4*pgs B:Nat)-1) W;rw[AX Z] at b;go_enter func133,ntmps133
 go_wp2_with (first
  | (go_at_call 117;refine d.mono ?_;rintro e w1 ⟨rfl,c⟩)
  | (go_at_call 254;refine(f _ c).mono ?_;rintro e l ⟨rfl,a⟩;replace a:=c.tO a)
  | (go_at_call 115;apply mq (b _)))
 exact Af (v:=.tuple #[zz,zz,.bool false]) (by simp[results,results133,go_sem]) rfl ⟨rfl,a⟩
theorem YBW (a:Blk w f 406 cs) (b:cs[1]? = some (.pointer (some g))) (h:GeomAt w g B) (x:Int) (i:x<1) :
 cr 406 #[pq f,ii x] w (.bool true):=by
 have c:=XAn h x (by have:=(JD h.pos h.few).1;omega);have j:=(a.cell 1).trans b;go_enter func406,ntmps406;go_wp2_with (apply c.mono;rintro e w' ⟨rfl,d⟩);go_ret;exact⟨rfl,d⟩
theorem YBA (a:Boxed w b 404 (.pointer (some f))) (d:Blk w f 406 cs) (i:cs[1]? = some (.pointer (some g))) (h:GeomAt w g B) (x:Int) (j:x<1) :
 cr 405 #[ii x,pq b] w (.bool false):=by
 have k:=YBW d i h x j;have c:=a.cell;go_enter func405,ntmps405;go_wp2_with (apply k.mono;rintro e w' ⟨rfl,l⟩);go_ret;exact⟨rfl,l⟩
theorem JBG (v:Boxed w b 404 (.pointer (some f))) (y:Blk w f 406 cs) (C:cs[1]? = some (.pointer (some g))) (h:GeomAt w g B) (c:Nat) (zs:List Int) (j:Rd w A n (VM zs)) (D:∀ z∈zs,z<1) (H:n<=15) :
 cr 404 #[.slice A n c,.func (.func 405) #[] #[pq b]] w (.bool false):=by
 have d:cr 439 #[.slice A n c,.func (.func 405) #[] #[pq b]] w (ii (-1)):=by
  have l:zs.length=n:=by simpa [VM] using j.1
  have E:=JB l;clear l;go_enter func439,ntmps439;go_wp2_with fail;go_loopw [5,8] (fun _ i wr=>∃ k:Nat,k<=n/\i=.int .i64 k/\kz w wr) (fun _ i _=>n-(intOf i).toNat)
  case atStart=>exact⟨0,AS _,rfl,kq⟩
  obtain⟨k,m,rfl,a⟩:=hrel;by_cases p:k<n
  . have r:k<zs.length:=by rw[JA E];exact p
    have I:((k:Nat):Int)<(n:Nat):=Z;obtain⟨F,o,u,rfl,s,J,t⟩:=(j.keep a).at_ p;simp only[VM,Aa,AC r,Ao,Ae] at s;subst s;have d:=YBA (KA v a sq) (y.kO a) C (h.kO a) zs[k] (D _ (AQ r));generalize zs[k]=z at *;replace t:cl wr (aq F (o+k)) (ii z):=t;go_wp2_with (apply d.mono;rintro e w' ⟨rfl,G⟩);go_roundw;case rel=>exact⟨k+1,Z,by go_num,a.tO G⟩
    case measure=>simp[intOf];omega
  obtain rfl:n=k:=Z
  go_wp2
  go_ret;exact⟨rfl,a⟩
 go_enter func404,ntmps404;go_wp2_with (apply d.mono;rintro e w' ⟨rfl,m⟩);go_ret;exact⟨rfl,m⟩
theorem XAr (B k:Nat) (x:Int):Ze (List.replicate B x) k=List.replicate (min (B-15*k) 15) x:=by
 unfold Ze;rw[CZ,Cu]
 congr 1
 omega
theorem XAO {G:Nat} {b:List Nat} (N:Blk w f 406 cs) (b6:cs[0]? = some (.pointer (some d))) (ab:cs[1]? = some (.pointer (some g))) (b7:cs[23]? = some (.pointer (some m)))
 (ac:DiskAt w base d F D) (b8:D.off=false) (ad:∀ k,k<D.n->D.faults[k]? = some false) (hn:D.n=198+4*pgs B) (O:GeomAt w g B) (o:Bool) (x:Int) (hx:x=if o then -1 else 0) {I:PImage} (a2:ImageAt w G m b I)
 (ae:(if o then I.ol else I.bl)=List.replicate B x) (Q:(if o then I.od else I.bd)=List.replicate (pgs B) false)
 (a3:∀ k,k<pgs B->seg 64 D.now (6+2*(k+(if o then pgs B else 0)))=JY (List.replicate (min (B-15*k) 15) x)) (c:Nat) (a4:Rd w A (pgs B) (YL (List.replicate (pgs B) 0))) (b9:∀ a,A=some a->a.block∉b) (R:f∉b) (af:g∉b) (ba:Apart F b) :
 Calls prog 361 #[pq f,.bool o,.slice A (pgs B) c] w fun e w'=>e=.returned zz/\ImageAt w' G m b I/\Keep b w w':=by
 have bb:=JD O.pos O.few;have bc:=a2.lt;have a5:=fun(k:Nat) (p:k<pgs B) W (h:Keep b w W)=>KAK W g B (O.keep h af) o k 0 Z p;have a6:=fun(k:Nat) (p:k<pgs B) W (h:Keep b w W)=>Zf W base d F D (ac.keep h ba) b8 (6+2*(k+(if o then pgs B else 0))+0) (by split <;> omega) (ad _ (by split <;> omega));have r:=fun W (h:Keep b w W)=>(⟨(N.keep h R).cell 0 |>.trans b6,(N.keep h R).cell 1 |>.trans ab,(N.keep h R).cell 23 |>.trans b7⟩:cl W f (pq d)/\cl W (aq f 1) (pq g)/\cl W (aq f 23) (pq m));have bd:x<1:=by rw[hx];split <;> omega
 have br : -1<=x:=by rw[hx];split <;> omega
 have S:=fun(k:Nat) (p:k<pgs B) W (hi:ImageAt W G m b I)=>YAL hi o k (by rw[Q];simpa using p);have T:=fun(k:Nat) (p:k<pgs B) W (hi:ImageAt W G m b I) (A:Option Addr) (n c2:Nat) hn=>XAh hi o k (by rw[Q];simpa using p) (by rw[Q,Ay,AP p]) (A:=A) (n:=n) c2 hn;simp only[ae,XAr] at S T;clear hx ae Q bc ad;generalize bs:(if o then pgs B else 0)=ov at *;have a7:kz w (w.alloc (.cells #[pq f] 404)):=kq.alloc _;have ag:Boxed (w.alloc (.cells #[pq f] 404)) w.heap.size 404 (.pointer (some f)):=Boxed.new w _ _;have bf:w.heap.size∉b:=fun hm=>by have:=a2.lt _ hm;omega
 obtain⟨P,U⟩:=ex (pgs B);rw[<- U] at a4 bb a5 a6 S T a3 ⊢;have ah:∀ k,k<P->1<=min (B-15*k) 15:=fun k p=>by unfold pgs at U;omega
 have bt:=JB U;clear U;go_enter func361,ntmps361;go_wp2_with fail;generalize w.alloc (.cells #[pq f] 404)=w1 at *;go_loopw [7,8,9,10,11,14] (fun _ _ _ _ _ i wr=>∃ k:Nat,k<=P/\i=.int .i64 k/\ImageAt wr G m b I/\Boxed wr w.heap.size 404 (.pointer (some f))/\Keep b w wr) (fun _ _ _ _ _ i _=>P-(intOf i).toNat)
 case atStart=>exact⟨0,AS _,rfl,a2.kO a7,ag,a7.zero⟩
 clear ag a7;obtain⟨k,p,rfl,hi,hb,h⟩:=hrel;by_cases s:k<P
 . have bu:((k:Nat):Int)<(P:Nat):=Z
   obtain⟨bg,bh,bv,rfl,ai,bw,aj⟩:=(a4.keepIf h (fun a ha hm=>b9 a ha hm)).at_ s;simp only[YL,C3,Ay,AP s,Ae] at ai;subst ai;replace aj:cl wr (aq bg (bh+k)) zz:=aj;have ak:=ah k s;have al:=a3 k s;have bi:=a5 k s;have J:=a6 k s;have am:=S k s;have an:=T k s;rw[BV] at J;rw[al] at J;clear a5 a6 S T a3 al a4 ah;obtain⟨l,ao⟩:=ex (min (B-15*k) 15);rw[<- ao] at ak J am an;have V:l<=15:=Z;rw[XAY x V] at J;clear ao;have L:ImageAt wr.drew G m b I:=hi.kO (Keep.refl [] wr).drew;have t:=KA hb (Keep.refl [] wr).drew sq;have j:=h.drew;have M:=hb.cell;go_wp2_with fail;refine ZT (fun W=>cl W w.heap.size (pq f)/\cl W f (pq d)/\cl W (aq f 1) (pq g)) 17 [[0,1,2,3,4,5,6,7,8,9,10],[11],[12,13,14,15,16]] ⟨t.cell,(r _ j).1,(r _ j).2.1⟩ ?_;simp only[PI];iterate 11 refine wG ?_
   refine YB rq (fun K h=>?_);go_wp2_with (refine(bi _ j).mono ?_;rintro e w2 ⟨rfl,X⟩);replace L:=L.kO X;replace t:=KA t X sq;replace j:=j.tO X;clear X;refine h _ _ (⟨t.cell,(r _ j).1,(r _ j).2.1⟩) ?_
   try simp only[Act.put,PU]
   refine YB rq (fun K h=>?_);go_wp2_with (refine(J _ j).mono ?_;rintro e w3 ⟨ub,rfl,ap,Y⟩;obtain⟨BA,bj,rfl,_⟩:=ZB ap);replace L:=L.kO Y;replace t:=KA t Y sq;replace j:=j.tO Y;clear Y;refine h _ _ (⟨t.cell,(r _ j).1,(r _ j).2.1⟩) ?_;iterate 4 refine wG ?_
   refine KB ?_
   have ar:=KBT bj (Yu l x) (Rd.of_own ap) (KAN x V) (fun z C=>by
    unfold Yu at C;rcases AD.1 C with C | C
    . rw[AV C];omega
    rw[AV C];omega)
   have au:=fun(H:Option Addr) (E:Nat) (ac:15<=E) W=>elemInts.run_h H 15 E .i64 (l:Nat) Z Z W;simp only[BK] at au
   go_wp2_with (first
    | (go_at_call 403
       refine ar.mono ?_;clear ar M;rintro e w4 ⟨u,rfl,hu,a8⟩;obtain⟨H,E,rfl,bk,_⟩:=ZB hu;have av:=L.kO a8;have aw:=KA t a8 sq;have ax:=j.tO a8;have M:=aw.cell;have a9:=(r _ ax).2.2
       have ay:=am _ av)
    | (go_at_call 222
       refine ay.mono ?_;clear ay M a9;rintro e w5 ⟨v,rfl,hv,a0⟩;obtain⟨bx,vc,rfl,_⟩:=ZB hv;have bl:=av.kO a0;have az:=KA aw a0 sq;have aa:=ax.tO a0;have bm:=QB hu a0
       have b0:Rd w5 H l (VM (List.replicate l x)):=by
        have:=(Rd.of_own bm).take (k:=l) V
        rwa [show (VM (Yu l x)).take l=VM (List.replicate l x) by unfold VM;rw[<- Df,VAa]] at this
       have b1:=JBG az (N.keep aa R) ab (O.keep aa af) E (List.replicate l x) b0 (fun z C=>by rw[AV C];exact bd) V)
    | (refine QQ rfl (.tmp 46) none (some (.tmp 54)) rfl (.slice H l E) (au H E bk) ?_)
    | (go_at_call 404
       refine b1.mono ?_;clear b1;rintro e w6 ⟨rfl,a1⟩;have bn:=bl.kO a1;have b2:=KA az a1 sq;have b3:=aa.tO a1;have M:=b2.cell;have a9:=(r _ b3).2.2
       have b4:=an _ bn H l E (Ai ..).symm ak Z (b0.keep a1))
    | (go_at_call 407
       refine b4.mono ?_;clear b4 M a9;rintro e w7 ⟨rfl,bo,b5⟩;have bp:=KA b2 b5 bf;have bq:=b3.trans b5 (fun y hy=>.inl hy)))
   go_roundw;case rel=>exact⟨k+1,Z,by go_num,bo,bp,bq⟩
   case measure=>simp[intOf];omega
 obtain rfl:k=P:=Z;go_wp2_with fail;go_ret;exact⟨rfl,hi,h⟩
def QM (B s:Nat) (a:Int):Bool:=decide (0<a) && ((a.toNat-(6+4*pgs B)) / 24 == s)
theorem XBD (h:QM B s a=true):0<a/\(a.toNat-(6+4*pgs B)) / 24=s:=by
 simpa [QM] using h
theorem VK (h:a<=0):QM B s a=false:=by
 unfold QM;rw[AX Z];rfl
def VZ (B:Nat) (I:PImage) (s:Nat):Nat:=I.bl.countP (QM B s)+I.ol.countP (QM B s)
structure LiveOk (B:Nat) (lv:List Nat) (I:PImage):Prop where
 len:lv.length=8
 live:∀ s<8,lv.getD s 0=VZ B I s
 diff:∀ i,0<I.ol.getD i 0->I.ol.getD i 0≠I.bl.getD i 0
structure Ext (B:Nat) (S:PS):Prop where
 segs:VT S.us S.W.pos.seg
 liv:LiveOk B S.lv S.I
 slot:S.slot<=1
 lie0:∀ x∈S.lie0,x<=1
 lie1:∀ x∈S.lie1,x<=1
theorem Kl (lv:List Nat) (s:Nat) (z:Int):(XO lv s z).length=lv.length:=by simp[XO]
theorem VAp (lv:List Nat) (s k:Nat) (b:lv.getD s 0<=1000000) (a:s<lv.length):(XO lv s 1).getD k 0=lv.getD k 0+if k=s then 1 else 0:=by
 unfold XO;rw[AB,BT];by_cases h:k=s
 . subst h
   rw[AP rfl,AP a,AP rfl,AL Z];simp only[Co];omega
 rw[AL Z,AL h,<- AB];rfl
theorem VAV (lv:List Nat) (s k:Nat) (a:k<lv.length) (b:lv.getD s 0<=1000000):(XO lv s (-1)).getD k 0=lv.getD k 0-if s=k then 1 else 0:=by
 unfold XO;rw[AB,BT];by_cases h:s=k
 . subst h
   rw[AP rfl,AP a,AP rfl,AL Z];simp only[Co];omega
 rw[AL Z,AL h,<- AB];rfl
theorem VAS (zs:List Int) (lv:List Nat) (c:lv.length=8) (b:∀ k,lv.getD k 0<=1000000) :
 (zs.foldl (fun lv x=>if 0<x then XO lv ((x.toNat-(6+4*pgs B)) / 24) (-1) else lv) lv).length=8/\∀ k<8,(zs.foldl (fun lv x=>if 0<x then XO lv ((x.toNat-(6+4*pgs B)) / 24) (-1) else lv) lv).getD k 0=lv.getD k 0-zs.countP (QM B k):=by
 induction zs generalizing lv with
 | nil=>exact⟨c,fun k a=>sq⟩
 | cons z zs ih=>
   simp only[List.foldl_cons];by_cases d:0<z
   . rw[AP d]
     have g:=VAV lv ((z.toNat-(6+4*pgs B)) / 24)
     obtain⟨e,f⟩:=ih (XO lv ((z.toNat-(6+4*pgs B)) / 24) (-1)) (by rw[Kl];exact c) (fun k=>by
      by_cases a:k<lv.length
      . rw[g k a (b _)];have:=b k;omega
      rw[AB,BF (by rw[Kl];omega)];simp)
     refine⟨e,fun k a=>?_⟩;rw[f k a,g k Z (b _),Bu];unfold QM;rw[AJ d];simp only[Bool.true_and,CO]
     split <;> omega
   rw[AL d];obtain⟨e,f⟩:=ih lv c b;refine⟨e,fun k a=>?_⟩;rw[f k a,Bu,VK Z];simp
theorem YZ {lv:List Nat} {a:Nat} {zs:List Int} (g:lv.length=8) (b:∀ k,lv.getD k 0<=1000) (l:(a-(6+4*pgs B)) / 24<8) :
 (Kg B lv a zs).length=8/\∀ k<8,(Kg B lv a zs).getD k 0=lv.getD k 0+(if QM B k (a:Nat) then 1 else 0)-zs.countP (QM B k):=by
 unfold Kg;by_cases i:a=0
 . subst i
   rw[AP rfl];obtain⟨c,d⟩:=VAS (B:=B) zs lv g (fun k=>by have:=b k;omega);refine⟨c,fun k f=>?_⟩;rw[d k f,VK Z];simp
 rw[AL i];have j:=fun k=>VAp lv ((a-(6+4*pgs B)) / 24) k (by have:=b ((a-(6+4*pgs B)) / 24);omega) Z;obtain⟨c,d⟩:=VAS (B:=B) zs (XO lv ((a-(6+4*pgs B)) / 24) 1) (by rw[Kl];exact g) (fun k=>by rw[j];have:=b k;split <;> omega);refine⟨c,fun k f=>?_⟩;rw[d k f,j];unfold QM;rw[AJ Z];simp only[Bool.true_and,CO,BK]
 congr 2
 by_cases e:k=(a-(6+4*pgs B)) / 24
 . rw[AP e,AP e.symm]
 rw[AL e,AL (fun h=>e h.symm)]
theorem KBV (b:Good B S k j) (d:(S.us.getD s (0,0)).1=0):VZ B S.I s=0:=by
 have c:∀ x:Int,x = -1\/RefOk B S x->QM B s x=false:=by
  intro x a;by_cases h:QM B s x=true
  . obtain⟨f,e⟩:=XBD h
    rcases a with rfl | rfl | ⟨_,hl⟩
    . omega
    . omega
    have:=hl.used;rw[e] at this;exact absurd d this
  simpa using h
 unfold VZ;rw[List.countP_eq_zero.2 (fun x a=>by rw[c x (.inr (b.brefs x a))];simp),List.countP_eq_zero.2 (fun x a=>by rw[c x (b.orefs x a)];simp)]
theorem QBJ {I:PImage} (b:a∈I.bl\/a∈I.ol) (d:0<a):0<VZ B I ((a.toNat-(6+4*pgs B)) / 24):=by
 have c:QM B ((a.toNat-(6+4*pgs B)) / 24) a=true:=by simp[QM,d]
 unfold VZ;rcases b with b | b
 . have:=B7.2 ⟨a,b,c⟩;omega
 have:=B7.2 ⟨a,b,c⟩;omega
theorem VBf (a:Good B S k j) (s:Nat):VZ B S.I s<=128:=by
 unfold VZ;have b:=C1 (p:=QM B s) (l:=S.I.bl);have c:=C1 (p:=QM B s) (l:=S.I.ol);have:=a.bl;have:=a.ol;have:=a.b64;omega
theorem LiveOk.small (h:LiveOk B S.lv S.I) (a:Good B S k j) (s:Nat):S.lv.getD s 0<=1000:=by
 by_cases b:s<8
 . rw[h.live s b];have:=VBf a s;omega
 rw[AB,BF (by have:=h.len;omega)];simp
theorem QAT {t x:Nat} (h:VT us s) (f:x<=2147483647):VT (YH us t x) s:=by
 obtain⟨g,c,d⟩:=h;unfold YH;refine⟨uq g,fun u b=>?_,fun k a=>?_⟩
 . rcases AW b with b | rfl
   . exact c u b
   refine⟨?_,f⟩;simp only;by_cases i:t<us.length
   . rw[JI i];exact(c _ (AQ _)).1
   rw[AB,BF Z];simp
 rw[List.getElem_set]
 split
 . rename_i e
   subst e;simp only[Bj] at a;rw[JI a];exact d t a
 exact d k (uq a)
theorem Emitted.segs {W:PW} (a:Emitted B D us W D' us' W') (h:VT us s) (b:W.pos.lsn<=2147483647):VT us' s:=by
 rcases a with⟨_,_,rfl,_⟩ | ⟨_,c,d,e,f,_,_,_,_,rfl,_⟩
 . exact h
 exact QAT h b
theorem Added.extG {a:Nat} (C:Added B S.D S.us S.lv S.W i bs D' us' lv' W' a) (d:Good B S k j) (D:KO S.us S.W (ZM i)) (Q:j<=100000) (c:Ext B S) :
 VT us' W'.pos.seg/\LiveOk B lv' S.I:=by
 obtain⟨R,E,rfl,T⟩:=C;have U:=d.cap.lsn;have V:ZM i<=1:=by unfold ZM;split <;> omega
 rcases E with⟨l,rfl,rfl,rfl,rfl⟩ | ⟨t,l,f,rfl⟩ | ⟨t,l,rfl,W,m,F,f,G⟩
 . exact⟨c.segs,c.liv⟩
 . refine⟨?_,c.liv⟩
   have n:=f.segs c.segs Z;obtain⟨_,_,H,_⟩:=d.cap.emitted f;simp only;rw[H];exact n
 have X:=D t l;obtain⟨v,w⟩:=YW S.us Z;have I:=d.cap.ul;have Y:=d.cap.seg;have J:=c.liv.len;refine⟨?_,⟨uq J,fun s n=>?_,c.liv.diff⟩⟩
 . obtain⟨rs,hd,a0,t1,t2,t3,rfl,rfl,rfl⟩:=G
   obtain⟨f1,f2,K,f4,f5,L,f7,f8,f9,o,a1,a2⟩:=f.facts d.cap.ok;simp only;obtain⟨h1,y,M⟩:=c.segs;have z:m.length=8:=by rcases o with rfl | rfl <;> simpa using I
   have a3:F.pos.lsn<=S.W.pos.lsn+1:=L
   have N:∀ q<8,(m.getD q (0,0)).1=((VE S.us (YC S.us) 1).getD q (0,0)).1:=by
    intro q p;rcases o with rfl | rfl
    . rfl
    rw[VI]
   have O:S.W.pos.seg≠YC S.us:=by
    intro e;have:=d.cap.opn;rw[e,w] at this;omega
   have A:∀ u∈m,u.1<=2/\u.2<=2147483647:=by
    have r:∀ u∈VE S.us (YC S.us) 1,u.1<=2/\u.2<=2147483647:=by
     intro u b;unfold VE at b;rcases AW b with b | rfl
     . exact y u b
     refine⟨sq,?_⟩;simp only;rw[JI v];exact(y _ (AQ _)).2
    rcases o with rfl | rfl
    . exact r
    intro u b;unfold YH at b;rcases AW b with b | rfl
    . exact r u b
    refine⟨?_,by simp only;omega⟩;simp only;rw[JI (by simp[VE];omega)];exact(r _ (AQ _)).1
   refine⟨by simp[VE,YH];exact z,?_,?_⟩
   . intro u b
     unfold VE at b;rcases AW b with b | rfl
     . unfold YH at b
       rcases AW b with b | rfl
       . exact A u b
       refine⟨?_,by simp only;omega⟩;simp only;rw[JI Z];exact(A _ (AQ _)).1
     refine⟨sq,?_⟩;simp only;rw[JI (by simp[YH];omega)];unfold YH;rw[List.getElem_set_self];simp only;omega
   intro q p;have P:q<8:=by simpa [VE,YH,z] using p
   rw[<- JI p,VH _ _ _ _ (by simp[YH];omega),VI,N q P,VH _ _ _ _ v];rw[K];by_cases e:q=S.W.pos.seg
   . rw[AP e]
     subst e;constructor
     . intro h;omega
     intro h;exact absurd h O
   rw[AL e];by_cases g:q=YC S.us
   . rw[AP g];simp[g]
   rw[AL g];rw[JI Z,M q Z];constructor
   . intro h;exact absurd h e
   intro h;exact absurd h g
 rw[AB,BT]
 split
 . rename_i e
   subst e;rw[AP Z];exact(KBV d w).symm
 rw[<- AB];exact c.liv.live s n
theorem Added.ext {a:Nat} (c:Added B S.D S.us S.lv S.W i bs D' us' lv' W' a) (b:Good B S k j) (d:k<=50) (e:j<=100000) (f:Ext B S) :
 VT us' W'.pos.seg/\LiveOk B lv' S.I:=
 Added.extG c b (b.cap.frees d (by unfold ZM;split <;> omega)) e f
theorem JZ {p:Int->Bool} {i:Nat} (hi:i<l.length):(l.set i a).countP p+(if p l[i] then 1 else 0)=l.countP p+if p a then 1 else 0:=by
 have:=List.countP_set (p:=p) (l:=l) (i:=i) (a:=a) hi
 have b:(if p l[i] then 1 else 0)<=l.countP p:=by
  split
  . exact B7.2 ⟨l[i],AQ _,by assumption⟩
  omega
 omega
theorem Yh {z:Int} (h:0<x->x≠z):QM B s (QF x z)=QM B s x:=by
 unfold QF;by_cases b:0<x
 . rw[AL (h b),show max x 0=x from Z]
 rw[VK (a:=x) Z]
 split
 . exact VK Z
 exact VK Z
theorem Wrote.extG (h:Wrote B S b bs S') (c:Good B S k j) (n:KO S.us S.W (ZM ⟨1,b,0,0⟩)) (v:j<=100000) (G:b<B) (d:Ext B S):Ext B S':=by
 obtain⟨D',us',w,W',a,o,rfl⟩:=h;obtain⟨f,g⟩:=o.extG c n v d;obtain⟨H,I,J,y,z⟩:=o.readsG c.cap n c.now c.many;obtain⟨r,K⟩:=z rfl;have L:0<a:=by have:=r.lo;omega
 have A:(a-(6+4*pgs B)) / 24<8:=by have:=r.hi;omega
 have M:=c.ol
 have t:∀ x:Int,x = -1\/RefOk B S x->0<x->x≠(a:Nat):=by
  intro x d u;rcases d with rfl | rfl | ⟨_,hy⟩
  . omega
  . omega
  have:=(y _ hy).2.2 rfl;omega
 have C:=fun s=>LiveOk.small (S:={ S with lv:=w }) g ⟨c.cap,c.now,c.many,c.flt,c.flen,c.b1,c.b64,c.bl,c.ol,c.brefs,c.orefs,c.seq,c.epoch,c.done⟩ s;obtain⟨D,E⟩:=YZ (B:=B) (zs:=[QF (S.I.ol.getD b 0) a]) g.len C A;refine⟨f,⟨D,fun s f=>?_,fun i hi=>?_⟩,d.slot,d.lie0,d.lie1⟩
 . rw[E s f,g.live s f]
   unfold VZ;simp only;have N:=JZ (p:=QM B s) (l:=S.I.ol) (i:=b) (a:=(a:Nat)) Z;have F:S.I.ol.getD b 0=S.I.ol[b]:=Yg Z;rw[Bu,Do,F,Yh (fun u=>t _ (c.orefs _ (AQ _)) u)]
   have O:(if QM B s S.I.ol[b] then 1 else 0)<=S.I.ol.countP (QM B s):=by
    split
    . exact B7.2 ⟨S.I.ol[b],AQ _,by assumption⟩
    omega
   omega
 simp only at hi ⊢;rw[AB,BT] at hi ⊢
 split
 . rename_i e
   subst e;rw[AP Z];simp only[Co];intro m;have P:=c.bl;rw[Yg Z] at m;exact t _ (.inr (c.brefs _ (AQ _))) (by rw[<- m];omega) m.symm
 rename_i e;rw[AL e,<- AB] at hi;rw[<- AB];exact d.liv.diff i hi
theorem Wrote.ext (h:Wrote B S b bs S') (a:Good B S k j) (c:k<=50) (d:j<=100000) (e:b<B) (f:Ext B S):Ext B S':=
 Wrote.extG h a (a.cap.frees c (by unfold ZM;split <;> omega)) d e f
theorem KAG (B s b n:Nat) (l:List Int) (ds:List Bool) (j:b+n<=l.length):(XF b n l ds).2.1.countP (QM B s)+(XF b n l ds).1.countP (QM B s)=l.countP (QM B s):=by
 induction n with
 | zero=>simp[XF]
 | succ n ih=>
   rw[KS];unfold XN;simp only;have k:=(KH b n l ds).1;have c:b+n<(XF b n l ds).2.1.length:=Z;have d:=JZ (p:=QM B s) (a:=0) c;rw[DQ,Yg c];have f:QM B s 0=false:=VK Z;rw[f] at d
   have i:(if 0<QF (XF b n l ds).2.1[b+n] 0 then [QF (XF b n l ds).2.1[b+n] 0] else []).countP (QM B s)=if QM B s (XF b n l ds).2.1[b+n] then 1 else 0:=by
    rw[<- Yh (z:=0) (fun h=>Z)];generalize QF (XF b n l ds).2.1[b+n] 0=g;by_cases e:0<g
    . rw[AP e];simp[Bu]
    rw[AL e,VK Z];simp
   have:=ih Z;rw[i];simp at d;omega
theorem Trimmed.extG (h:Trimmed B S b n S') (c:Good B S k j) (l:KO S.us S.W (ZM ⟨2,b,n,0⟩)) (m:j<=100000) (v:b+n<=B) (d:Ext B S):Ext B S':=by
 obtain⟨D',us',o,W',a,p,rfl⟩:=h;obtain⟨f,g⟩:=p.extG c l m d;have w:=c.ol;have r:=fun s=>LiveOk.small (S:={ S with lv:=o }) g ⟨c.cap,c.now,c.many,c.flt,c.flen,c.b1,c.b64,c.bl,c.ol,c.brefs,c.orefs,c.seq,c.epoch,c.done⟩ s;obtain⟨t,u⟩:=YZ (B:=B) (a:=0) (zs:=(XF b n S.I.ol S.I.od).1) g.len r Z;refine⟨f,⟨t,fun s f=>?_,fun i hi=>?_⟩,d.slot,d.lie0,d.lie1⟩
 . rw[u s f,g.live s f]
   unfold VZ;simp only;have y:=KAG B s b n S.I.ol S.I.od Z;rw[VK (a:=((0:Nat):Int)) Z];simp only[Aj,Bt];omega
 simp only at hi ⊢;rw[AB,VY] at hi ⊢
 split
 . rename_i e
   rw[AP e] at hi;simp at hi
 rename_i e;rw[AL e,<- AB] at hi;rw[<- AB];exact d.liv.diff i hi
theorem Trimmed.ext (h:Trimmed B S b n S') (a:Good B S k j) (c:k<=50) (d:j<=100000) (e:b+n<=B) (f:Ext B S):Ext B S':=
 Trimmed.extG h a (a.cap.frees c (by unfold ZM;split <;> omega)) d e f
theorem YBd (B s:Nat) (c ol:List Int) (d:c.length=ol.length) (h:∀ i,0<ol.getD i 0->ol.getD i 0≠c.getD i 0) (j:∀ x∈ol,-1<=x) :
 (List.zipWith (fun b o=>if o = -1 then b else o) c ol).countP (QM B s)+((c.zip ol).flatMap (fun p=>if p.2 = -1 then [] else if 0<QF p.1 p.2 then [QF p.1 p.2] else [])).countP (QM B s)=c.countP (QM B s)+ol.countP (QM B s):=by
 induction c generalizing ol with
 | nil=>
   cases ol with
   | nil=>rfl
   | cons o ol=>simp at d
 | cons b c ih=>
   cases ol with
   | nil=>simp at d
   | cons o ol=>
     have hi:=ih ol (uq d) (fun i hi=>uq (h (i+1) (uq hi))) (fun x m=>j x (by simp[m]));have k:=h 0;simp only[List.getD_cons_zero] at k;have t:=j o sq;rw[List.zipWith_cons_cons,List.zip_cons_cons,At,Bu,Bu,Bu,DQ];by_cases f:o = -1
     . subst f
       rw[AP rfl,VK (a := -1) Z];simp;omega
     rw[AL f];simp only[AL f];have n:QM B s (QF b o)=QM B s b:=Yh (fun r e=>by subst e;exact k r rfl);rw[<- n];generalize QF b o=g;by_cases l:0<g
     . rw[AP l,Bu,Do];omega
     rw[AL l,VK (a:=g) Z];simp;omega
theorem Marked.extG (h:Marked B S e S') (b:Good B S k j) (l:KO S.us S.W (ZM ⟨3,0,0,e⟩)) (p:j<=100000) (r:1<=e/\e<=j+1) (c:Ext B S):Ext B S':=by
 obtain⟨C,D,t,E,a,F,G,H,I,od,m,n,rfl⟩:=h;have u:PItem.May ⟨3,0,0,e⟩:=.inr (.inr (.inl ⟨rfl,rfl,rfl,r.1,by simp only;omega⟩));have g:=b.cap.addedG l u (fun h=>by cases h) m;obtain⟨d,f⟩:=m.extG b l p c;obtain⟨_,_,v,_⟩:=g.emitted n;have J:=g.lsn;have w:=n.segs d Z;have K:=b.ol;have L:=b.bl;have o:S.I.bl.length=S.I.ol.length:=Z;have y:=fun s=>LiveOk.small (S:={ S with lv:=t }) f ⟨b.cap,b.now,b.many,b.flt,b.flen,b.b1,b.b64,b.bl,b.ol,b.brefs,b.orefs,b.seq,b.epoch,b.done⟩ s;obtain⟨z,A⟩:=YZ (B:=B) (a:=0) (zs:=QAD S.I.bl S.I.ol S.I.ol.length) f.len y Z;refine⟨by simp only;rw[v];exact w,⟨z,fun s d=>?_,fun i hi=>?_⟩,c.slot,c.lie0,c.lie1⟩
 . rw[A s d,f.live s d]
   unfold VZ;simp only
   have g:=YBd B s S.I.bl S.I.ol o f.diff (fun x c=>by
    rcases b.orefs x c with rfl | rfl | ⟨h,_⟩ <;> omega)
   rw[Vn o,VP,VK (a:=((0:Nat):Int)) Z];unfold QAD;rw[AH (by simp;omega),DT,VK (a := -1) Z];simp only[Aj,Bt];omega
 simp only at hi ⊢;rw[VP,AB,Ay] at hi
 split at hi <;> simp at hi
theorem Marked.ext (h:Marked B S e S') (a:Good B S k j) (b:k<=50) (c:j<=100000) (d:1<=e/\e<=j+1) (f:Ext B S):Ext B S':=
 Marked.extG h a (a.cap.frees b (by unfold ZM;split <;> omega)) c d f
theorem Does.ext {o:POp} (h:Does B S o S') (g:Vg B o) (a:Good B S k j) (c:k<=50) (d:j<=100000) (e:Ext B S):Ext B S':=by
 rcases h with⟨i,b⟩ | ⟨i,b⟩ | ⟨i,b,l⟩
 . rcases g with⟨_,m,n,p⟩ | ⟨f,_⟩ | ⟨f,_⟩
   . exact b.ext a c d Z e
   . omega
   omega
 . rcases g with⟨f,_⟩ | ⟨_,m,n,p⟩ | ⟨f,_⟩
   . omega
   . exact b.ext a c d Z e
   omega
 have r:=a.epoch;exact l.ext a c d Z e
/- Lemmas of the proof, with their conditions. -/
import Derived.Test.YtfedaknhecbehaaGreatM28
namespace Go.Proofs.YtfedaknhecbehaaGreat
open Tryz Go.RowKit Go.Shelf
variable {g t k m n:Nat} {A W:World} {cs:Array Value} {pre:List PRnd} {Ft Fm:List Nat} {S:PS}
set_option linter.all false
set_option maxHeartbeats 8000000
set_option maxRecDepth 100000
section
open Go.RowKit Go.Shelf
attribute [local go_sem] AW
def YBL (S:PS):Nat:=(YW S.I.bl S.I.ol S.I.bl.length).length
def XBo (S:PS):List Value:=[.int .i64 S.st.mode,.int .i64 S.st.view,.int .i64 S.st.epoch,.int .i64 S.st.seq,.int .i64 S.st.done,.int .i64 S.st.mount,.int .i64 S.st.gen,.int .i64 (YB S.us:Nat),.int .i64 (YBL S:Nat),.int .i64 (ZM S.I.ol:Nat)]
theorem KAH (a ol:List Int) (k:Nat):(YW a ol k).length<=2*k:=by
 induction k with
 | zero=>simp[YW]
 | succ k ih=>
   rw[YW,AE,AE]
   split <;> split <;> simp <;> omega
theorem Yf {w:World} {t:TypeId} {a b c d e f i j k l:Value} (h:Blk w g t #[a,b,c,d,e,f,i,j,k,l]) :
 cl w g a/\cl w (aq g 1) b/\cl w (aq g 2) c/\cl w (aq g 3) d/\cl w (aq g 4) e/\cl w (aq g 5) f/\cl w (aq g 6) i/\cl w (aq g 7) j/\cl w (aq g 8) k/\cl w (aq g 9) l:=
 ⟨uq (h.cell 0),uq (h.cell 1),uq (h.cell 2),uq (h.cell 3),uq (h.cell 4),uq (h.cell 5),uq (h.cell 6),uq (h.cell 7),uq (h.cell 8),uq (h.cell 9)⟩
theorem QAl (w:World):cr 22 #[.pointer none] w (.agg #[zz,zz,zz,zz,zz,zz,zz,zz,zz,zz]):=by
 go_enter func22,ntmps22
 go_wp2
 have a:=Blk.new w 58 #[zz,zz,zz,zz,zz,zz,zz,zz,zz,zz];exact Ac (v:=.agg #[zz,zz,zz,zz,zz,zz,zz,zz,zz,zz]) (by simp[results,results22,go_sem]) rfl ⟨rfl,kq.alloc _⟩
def wrN (n:Nat):Int:=IntKind.i64.wrap (n:Nat)
theorem XBK (n:Nat):IntKind.i64.wrap (wrN n+1)=wrN (n+1):=by
 unfold wrN;simp only[AI];omega
theorem VAw (n:Nat) (h:n<=1000000):wrN n=(n:Nat):=by
 unfold wrN;rw[AI];omega
structure KSta (w:World) (cs:Array Value) (pre:List PRnd) (W:World):Prop where
 cnt:Blk W (w.heap.size+1) 58 (cs.setIfInBounds 8 (.int .i64 (wrN pre.length)))
 res:Blk W w.heap.size 58 #[zz,zz,zz,zz,zz,zz,zz,zz,zz,zz]
 keep:kz w W
theorem KSta.kept {w B:World} (h:KSta w cs pre A) (a:kz A B):KSta w cs pre B:=⟨h.cnt.kO a,h.res.kO a,h.keep.tO a⟩
theorem KSta.turned {w:World} {o a:Obj} (h:KSta w cs pre W) (d:w.heap.size<=k) (b:W.heap[k]? = some o) (c:o.isCells=false):KSta w cs pre (W.putObj k a):=
 ⟨XH a h.cnt b c,XH a h.res b c,h.keep.putObj d a⟩
theorem KAl {w:World} {base:Nat} (s d p:Nat) (L0 L1:Value) (S:PS) (hblk:Blk w s 146 #[.pointer (some d),.pointer (some (aq g 0)),.pointer (some t),.pointer (some m),.pointer (some p),
 .int .i64 S.st.mode,.int .i64 S.st.view,.int .i64 S.st.epoch,.int .i64 S.st.seq,.int .i64 S.st.done,.int .i64 S.st.mount,.int .i64 S.st.gen,.int .i64 0,.int .i64 0,.int .i64 0,.int .i64 S.slot,L0,L1])
 (htab:TableAt w base t g Ft S.us S.lv) (hI:ImageAt w base m Fm S.I) :
 cr 22 #[.pointer (some (aq s 0))] w (.agg (XBo S).toArray):=by
 have hFr:=fun W (hk:kz w W)=>Ys (htab.kO hk);have hPe:=fun W (hk:kz w W)=>YAg (hI.kO hk);unfold XBo;generalize hfc:YB S.us=fc at *;generalize hpc:ZM S.I.ol=pc at *;obtain⟨D,us,lv,W,I,⟨mode,view,epoch,seq,done,mount,gen⟩,slot,lie0,lie1⟩:=S;simp only at *;refine(AQ (n:=3)).1 ?_;refine callsIn_of_wp_marks func22 rfl trivial ?_ rfl;simp only[ntmps22,PL,Nat.reduceAdd,Nat.reduceSub];obtain⟨w2,hw2⟩:=ex ((w.alloc (.cells #[.int .i64 0,.int .i64 0,.int .i64 0,.int .i64 0,.int .i64 0,.int .i64 0,.int .i64 0,.int .i64 0,.int .i64 0,.int .i64 0] 58)).alloc (.cells #[.int .i64 mode,.int .i64 view,.int .i64 epoch,.int .i64 seq,.int .i64 done,.int .i64 mount,.int .i64 gen,.int .i64 0,.int .i64 0,.int .i64 0] 58));have k2:kz w w2:=by rw[hw2];exact(kq.alloc _).alloc _
 have s2:w2.heap.size=w.heap.size+2:=by rw[hw2];simp
 have b2:Blk w2 w.heap.size 58 #[.int .i64 0,.int .i64 0,.int .i64 0,.int .i64 0,.int .i64 0,.int .i64 0,.int .i64 0,.int .i64 0,.int .i64 0,.int .i64 0]:=by rw[hw2];exact(Blk.new w _ _).kO (kq.alloc _)
 have b3:Blk w2 (w.heap.size+1) 58 #[.int .i64 mode,.int .i64 view,.int .i64 epoch,.int .i64 seq,.int .i64 done,.int .i64 mount,.int .i64 gen,.int .i64 0,.int .i64 0,.int .i64 0]:=by
  rw[hw2];have:=Blk.new (w.alloc (.cells #[.int .i64 0,.int .i64 0,.int .i64 0,.int .i64 0,.int .i64 0,.int .i64 0,.int .i64 0,.int .i64 0,.int .i64 0,.int .i64 0] 58)) 58 #[.int .i64 mode,.int .i64 view,.int .i64 epoch,.int .i64 seq,.int .i64 done,.int .i64 mount,.int .i64 gen,.int .i64 0,.int .i64 0,.int .i64 0];rw[show ∀ o,(w.alloc o).heap.size=w.heap.size+1 from fun o=>sq] at this;exact this
 obtain⟨c0,c1,c2,c3,c4,c5,c6,c7,c8,c9,c10,c11,c12,c13,c14,c15,c16,c17⟩:=KC hblk;have hslt:=hblk.lt
 gi_wp2
 rw[<- hw2];clear hw2;have hFr1:=hFr w2.drew k2.drew;obtain⟨f7,f9⟩:(∀ W,kz w2 W->W.frozen? ⟨w.heap.size+1,7,none⟩=false)/\(∀ W,kz w2 W->W.frozen? ⟨w.heap.size+1,9,none⟩=false):=⟨fun W hk=>(b3.kO hk).frozen 7,fun W hk=>(b3.kO hk).frozen 9⟩;refine XU (Ck.2 ?_);refine ZT (fun w'=>cl w' (aq s 2) (pq t)/\cl w' (aq s 3) (pq m)) 11 [[0,1,2,3,5,6,7,8],[4,10],[9]] ⟨(KC (hblk.kO k2.drew)).2.2.1,(KC (hblk.kO k2.drew)).2.2.2.1⟩ ?_;simp only[PI];iterate 8 refine wG ?_
 refine JB rq fun K hK=>?_;go_wp2_with (refine hFr1.mono ?_;clear hFr1;rintro e w3 ⟨rfl,hk3⟩);have k3:kz w2 w3:=kq.drew.tO hk3;have hPe1:=hPe w3 (k2.tO k3);refine hK _ _ (⟨(KC (hblk.kO (k2.tO k3))).2.2.1,(KC (hblk.kO (k2.tO k3))).2.2.2.1⟩) ?_
 iterate 1 refine wG ?_
 refine JB rq fun K hK=>?_;go_wp2_with (refine hPe1.mono ?_;clear hPe1;rintro e w4 ⟨rfl,hk4⟩);have k4:kz w2 w4:=k3.tO hk4;refine hK _ _ (⟨(KC (hblk.kO (k2.tO k4))).2.2.1,(KC (hblk.kO (k2.tO k4))).2.2.2.1⟩) ?_
 try simp only[Act.put,PU]
 refine VB ?_;have q7:=f7 w4 k4;have q9:=f9 w4 k4;obtain⟨y0,y1,y2,y3,y4,y5,y6,y7,y8,y9⟩:=Yf (b3.kO k4);go_wp2_with fail;have hkz:Keep [w.heap.size+1] w4 ((w4.setCell ⟨w.heap.size+1,7,none⟩ (.int .i64 (fc:Nat))).setCell ⟨w.heap.size+1,9,none⟩ (.int .i64 (pc:Nat))):=(kq.setCell (.inl sq) _).setCell (.inl sq) _;have b5:=((b3.kO k4).set 7 (.int .i64 (fc:Nat))).set 9 (.int .i64 (pc:Nat));have b5r:=(b2.kO k4).keep hkz sq;have k5:=(k2.tO k4).trans hkz iq;generalize (w4.setCell ⟨w.heap.size+1,7,none⟩ (.int .i64 (fc:Nat))).setCell ⟨w.heap.size+1,9,none⟩ (.int .i64 (pc:Nat))=w5 at *;simp at b5;have s5:w.heap.size+2<=w5.heap.size:=by have:=b5.lt;omega
 clear q7 q9 y0 y1 y2 y3 y4 y5 y6 y7 y8 y9 k4 hk4 k3 hk3 b3 b2 f7 f9 k2 s2 c0 c1 c2 c3 c4 c5 c6 c7 c8 c9 c10 c11 c12 c13 c14 c15 c16 c17 hFr hPe hkz hfc hpc;have c3:=(KC (hblk.kO k5)).2.2.2.1
 gi_wp2_with (first
  | (refine⟨trivial,?_⟩;refine(VBY _ _ _ rfl).mono ?_;rintro e w' ⟨rfl,rfl⟩))
 obtain⟨w6,hw6⟩:=ex (w5.alloc (.cells #[.pointer (some m)] 128));rw[<- hw6];have k6:kz w5 w6:=by rw[hw6];exact kq.alloc _
 have s6:w6.heap.size=w5.heap.size+1:=by rw[hw6];simp
 have bm:Boxed w6 w5.heap.size 128 (.pointer (some m)):=by rw[hw6];exact Boxed.new w5 _ _
 have hlt:=hI.lt;have hseq:=VAt 2 [w.heap.size+1] (hI.kO (k5.tO k6)) bm (fun g hg hm=>by have:=hlt g hg;simp at hm;omega) (by simp;omega) (fun g hg=>by simp at hg;omega);have h0:KSta w #[.int .i64 mode,.int .i64 view,.int .i64 epoch,.int .i64 seq,.int .i64 done,.int .i64 mount,.int .i64 gen,.int .i64 (fc:Nat),.int .i64 0,.int .i64 (pc:Nat)] [] w6:=⟨b5.kO k6,b5r.kO k6,k5.tO k6⟩
 refine QAX (n:=3) (gf:=234) (lb:=#[.pointer (some w5.heap.size)]) rfl (enters_of func234 (by kernel_rfl) rfl)
  hseq
  (fun A B C h k=>h.trans k)
  (fun W o o' hg' ho=>KeepR.putObj Z hg' ho)
  (fun _=>rfl) (KSta w #[.int .i64 mode,.int .i64 view,.int .i64 epoch,.int .i64 seq,.int .i64 done,.int .i64 mount,.int .i64 gen,.int .i64 (fc:Nat),.int .i64 0,.int .i64 (pc:Nat)]) (fun s A B h hk=>h.kept hk) (fun s W l o o' h hl hg' ho=>h.turned Z hg' ho)
  (fun pre x W l o o' h hl hg' ho=>trivial) h0
  (fun y=>{ tmps:=#[.pointer (some (aq s 0)),undef,.pointer (some w.heap.size),.pointer (some ⟨w.heap.size+1,0,none⟩),.pointer (some (aq s 0)),.bool false,undef,.pointer (some (aq s 0)),.pointer (some (aq s 0)),.pointer (some (aq s 5)),.agg #[.int .i64 mode,.int .i64 view,.int .i64 epoch,.int .i64 seq,.int .i64 done,.int .i64 mount,.int .i64 gen,.int .i64 0,.int .i64 0,.int .i64 0],.pointer (some (aq s 0)),.pointer (some (aq s 0)),.pointer (some (aq s 2)),.pointer (some t),.int .i64 (fc:Nat),.pointer (some (aq s 0)),.pointer (some (aq s 0)),.pointer (some (aq s 3)),.pointer (some m),.int .i64 (pc:Nat),.pointer (some ⟨w.heap.size+1,7,none⟩),.pointer (some ⟨w.heap.size+1,9,none⟩),.pointer (some (aq s 0)),.pointer (some (aq s 0)),.pointer (some (aq s 3)),.pointer (some m),.func (.func 234) #[] #[.pointer (some w5.heap.size)],.int .i64 (y.1:Nat),.int .i64 y.2,undef,undef,undef,undef,undef],defers:=[] }) ?assign ?body ?done
 case assign=>
  rintro l ⟨k,z⟩ W K hK;dsimp only[YY] at hK ⊢
  gi_wp2
  simpa using hK
 case body=>
  rintro l pre ⟨k,z⟩ W hI' -;dsimp only;obtain⟨q,hq⟩:=ex (wrN pre.length);have hw:=XBK pre.length;obtain⟨r,hr⟩:=ex (wrN (pre.length+1));rw[<- hq,<- hr] at hw;have hbx:=hI'.cnt;rw[<- hq] at hbx;have hc8:cl W ⟨w.heap.size+1,8,none⟩ (ii q):=uq (hbx.cell 8)
  have hf8:=hbx.frozen 8;have hltB:=hbx.lt;have HI:=ZB hI';have HR:=ZB hr;clear h0 bm k6 hseq hI' hq hr hw6
  gi_wp2
  have hI':=ZA HI;have hk3:Keep [w.heap.size+1] W (W.setCell ⟨w.heap.size+1,8,none⟩ (.int .i64 r)):=kq.sc (w.heap.size+1) 8
  have hfc:KeepsFrom w6.heap.size W (W.setCell ⟨w.heap.size+1,8,none⟩ (.int .i64 r)):=hk3.fromCells (fun g hg o ho=>by
   rw[Ag.1 hg] at ho;rw[show W.heap[_]? = _ from hbx] at ho;cases ho;rfl) _
  have hfc2:KeepsFrom (w6.heap.size+2) W (W.setCell ⟨w.heap.size+1,8,none⟩ (.int .i64 r)):=hk3.fromCells (fun g hg o ho=>by
   rw[Ag.1 hg] at ho;rw[show W.heap[_]? = _ from hbx] at ho;cases ho;rfl) _
  refine⟨hfc,⟨KeepC.ofKeep hk3 (fun x hx=>hx),hfc2⟩,⟨?_,hI'.res.keep hk3 sq,hI'.keep.trans hk3 iq⟩⟩;have:=hbx.set 8 (.int .i64 r);rw[AE,Af,<- ZA HR];simpa using this
 case done=>
  intro D' xs W hD' hS hI' hdef;have hbx:=hI'.cnt;rw[hS,VAw _ (by have:=KAH I.bl I.ol I.bl.length;obtain⟨p1,p2,F1,F2,hi⟩:=hI;obtain⟨_,_,hb⟩:=hi.b;have:=hb.few;omega)] at hbx;obtain⟨q,hq⟩:=ex ((YW I.bl I.ol I.bl.length).length);rw[<- hq] at hbx;have HQ:=ZB hq;clear hq;obtain⟨y0,y1,y2,y3,y4,y5,y6,y7,y8,y9⟩:=Yf (uq hbx);have hbr:=hI'.res;obtain⟨z0,z1,z2,z3,z4,z5,z6,z7,z8,z9⟩:=Yf hbr;have q0:=hbr.frozen 0;have q1:=hbr.frozen 1;have q2:=hbr.frozen 2;have q3:=hbr.frozen 3;have q4:=hbr.frozen 4;have q5:=hbr.frozen 5;have q6:=hbr.frozen 6;have q7:=hbr.frozen 7;have q8:=hbr.frozen 8;have q9:=hbr.frozen 9;have HI:=ZB hI';clear h0 bm k6 hseq hI' hw6
  gi_wp2
  have hI':=ZA HI;have hz:=((((((((((hbr.set 0 (.int .i64 mode)).set 1 (.int .i64 view)).set 2 (.int .i64 epoch)).set 3 (.int .i64 seq)).set 4 (.int .i64 done)).set 5 (.int .i64 mount)).set 6 (.int .i64 gen)).set 7 (.int .i64 (fc:Nat))).set 8 (.int .i64 (q:Nat))).set 9 (.int .i64 (pc:Nat)));have hKs:=(((((((((((Keep.refl [w.heap.size] W).setCell (p:=⟨w.heap.size,0,none⟩) (.inl sq) (.int .i64 mode)).setCell (p:=⟨w.heap.size,1,none⟩) (.inl sq) (.int .i64 view)).setCell (p:=⟨w.heap.size,2,none⟩) (.inl sq) (.int .i64 epoch)).setCell (p:=⟨w.heap.size,3,none⟩) (.inl sq) (.int .i64 seq)).setCell (p:=⟨w.heap.size,4,none⟩) (.inl sq) (.int .i64 done)).setCell (p:=⟨w.heap.size,5,none⟩) (.inl sq) (.int .i64 mount)).setCell (p:=⟨w.heap.size,6,none⟩) (.inl sq) (.int .i64 gen)).setCell (p:=⟨w.heap.size,7,none⟩) (.inl sq) (.int .i64 (fc:Nat))).setCell (p:=⟨w.heap.size,8,none⟩) (.inl sq) (.int .i64 (q:Nat))).setCell (p:=⟨w.heap.size,9,none⟩) (.inl sq) (.int .i64 (pc:Nat)));simp only[PU] at hz;have hdef2:((((((((((W.setCell w.heap.size (.int .i64 mode)).setCell (aq w.heap.size 1) (.int .i64 view)).setCell (aq w.heap.size 2) (.int .i64 epoch)).setCell (aq w.heap.size 3) (.int .i64 seq)).setCell (aq w.heap.size 4) (.int .i64 done)).setCell (aq w.heap.size 5) (.int .i64 mount)).setCell (aq w.heap.size 6) (.int .i64 gen)).setCell (aq w.heap.size 7) (.int .i64 (fc:Nat))).setCell (aq w.heap.size 8) (.int .i64 (q:Nat))).setCell (aq w.heap.size 9) (.int .i64 (pc:Nat))).heap[D']? = some (.deferred (some [])):=(hKs.block D' (AR.1 hdef).1 (by simp;omega)).trans hdef;have hzz:=XH (.deferred none) hz hdef2 rfl;obtain⟨e0,e1,e2,e3,e4,e5,e6,e7,e8,e9⟩:=Yf hzz;have hkw:=(hI'.keep.trans hKs iq).putObj (g:=D') Z (.deferred none);refine⟨sq,.inl ⟨_,_,rfl,run_takeDeferred hdef2,?_⟩⟩;refine⟨.agg #[.int .i64 mode,.int .i64 view,.int .i64 epoch,.int .i64 seq,.int .i64 done,.int .i64 mount,.int .i64 gen,.int .i64 (fc:Nat),.int .i64 (q:Nat),.int .i64 (pc:Nat)],?_,by rw[ZA HQ];rfl,hkw⟩;simp[results,results22,go_sem,e0,e1,e2,e3,e4,e5,e6,e7,e8,e9]
theorem JAm {w:World} {base s d p:Nat} {Fd Fw:List Nat} {a b:Value} {B:Nat} (h:StoreIs w base s d g t p m Fd Ft Fw Fm a b B S) :
 cr 22 #[pq s] w (.agg (XBo S).toArray):=
 KAl s d p a b S h.blk h.log.tab h.img
end
section
variable (w:World) (base x:Nat) (L:Value) (F:List Nat) (next:Nat) (sl:List PSlot) (h:WinIs w base x L F next sl)
include h
theorem noneW_is:cq 264 #[pq x] w (.bool false):=by
 obtain⟨g,c,rfl,b⟩:=h.form;obtain⟨d,e⟩:=h.cells;have f:=h.pos;have a:((sl.length:Nat):Int)≠0:=Z
 have i:(((sl.length:Nat):Int) == 0)=false:=uq a
 generalize sl.length=m at *;clear h;go_enter func264,ntmps264
 go_wp2
 go_ret;exact⟨rfl,rfl⟩
theorem NextW_is:cq 160 #[pq x] w next:=by
 obtain⟨a,b⟩:=h.cells;clear h;go_enter func160,ntmps160
 go_wp2
 go_ret;exact⟨rfl,rfl⟩
theorem XAb (g c:Nat) (a:L=.slice (some g) sl.length c) (n:Nat) (f:n<=4000000000) :
 cr 265 #[pq x,n] w (.pointer (some (aq g (n % sl.length*6)))):=by
 subst a;obtain⟨b,j⟩:=h.cells;have d:=h.pos;have k:=h.few;have e:n % sl.length<sl.length:=Bk _ d;generalize sl.length=m at *;clear h;obtain⟨i,hi⟩:=ex (n % m)
 have l:IntKind.i64.wrap ((n:Int).tmod (m:Nat))=(i:Nat):=by
  rw[Bu Z,AI,hi];have:((n:Int) % (m:Nat))=((n % m:Nat):Int):=sq
  omega
 have o:(n:Int).tmod (m:Nat)=(i:Nat):=by
  rw[Bu Z,hi];simp
 rw[<- hi] at e ⊢;have p:((i:Nat):Int)<(m:Nat):=Z
 have q:m≠0:=Z
 clear hi;go_enter func265,ntmps265;go_wp2_with fail;refine ZT (fun w'=>cl w' x (.slice (some g) m c)) 11 [[0,1,2,3,4,5,6,7,8,9,10]] b ?_;simp only[PI];iterate 11 refine wG ?_
 refine VB ?_;go_wp2_with fail;go_ret;exact⟨sq,kq.drew⟩
theorem WinIs.slot (g c:Nat) (b:L=.slice (some g) sl.length c) (i:Nat) (hi:i<sl.length) :
 cl w (aq g (i*6)) (.int .i64 sl[i].o.k)/\cl w (aq g (i*6+1)) (.int .i64 sl[i].o.b)/\cl w (aq g (i*6+2)) (.int .i64 sl[i].o.c)/\cl w (aq g (i*6+3)) (.int .i64 sl[i].o.e)/\w.cell? (aq g (i*6+4))=some sl[i].v/\cl w (aq g (i*6+5)) (.bool sl[i].is):=by
 subst b;have a:=h.row;refine⟨?_,?_,?_,?_,?_,?_⟩
 . exact XL a (by rw[show i*6=i*6+0 from rfl,YN JK sl i 0 hi Z];rfl)
 . exact XL a (by rw[YN JK sl i 1 hi Z];rfl)
 . exact XL a (by rw[YN JK sl i 2 hi Z];rfl)
 . exact XL a (by rw[YN JK sl i 3 hi Z];rfl)
 . exact XL a (by rw[YN JK sl i 4 hi Z];rfl)
 exact XL a (by rw[YN JK sl i 5 hi Z];rfl)
theorem PeekW_is:Calls prog 266 #[pq x] w fun e w'=>∃ q,sl.getD (next % sl.length) PSlot.none_=q/\e=.returned (.tuple #[.agg #[.int .i64 q.o.k,.int .i64 q.o.b,.int .i64 q.o.c,.int .i64 q.o.e,q.v],.bool q.is])/\(∃ A c,q.v=.slice A q.o.d.length c)/\kz w w':=by
 obtain⟨g,c,s,P⟩:=h.form;have t:=fun W (a:kz w W)=>noneW_is W base x L F next sl (h.kO a);have u:=fun W (a:kz w W)=>XAb W base x L F next sl (h.kO a) g c s next (by have:=h.nb;omega);have y:next % sl.length<sl.length:=Bk _ h.pos;have p:=fun W (a:kz w W)=>(h.kO a).slot W base x L F next sl g c s (next % sl.length) y;have z:sl.getD (next % sl.length) PSlot.none_=sl[next % sl.length]:=by rw[AA,AC y];rfl
 have r:=h.dat sl[next % sl.length] (AN _);have G:=fun W (a:kz w W)=>(h.kO a).cells.2;rw[z];clear z;generalize sl[next % sl.length]=q at *;obtain⟨Q,⟨k,b,j,e,d⟩,is⟩:=q;simp only at p r;obtain⟨l,m,rfl,_⟩:=XB r;generalize next % sl.length=i at *;clear h r;have n:kz w (w.alloc (.cells #[zz,zz,zz,zz,zn] 95)):=kq.alloc _;have R:=G _ n;go_enter func266,ntmps266
 go_wp2_with (first
  | (go_at_call 264;refine(t _ n).mono ?_;clear t;rintro e w' ⟨rfl,rfl⟩)
  | (go_at_call 265;refine(u _ n).mono ?_;clear u;rintro e w1 ⟨rfl,B⟩))
 have C:=n.tO B;have f:=(Blk.new w 95 #[zz,zz,zz,zz,zn]).kO B;have S:=f.frozen 0;have T:=f.frozen 1;have U:=f.frozen 2;have V:=f.frozen 3;have X:=f.frozen 4;obtain⟨Y,z1,z2,z3,z4⟩:=ZE f;have o:=f.put5 (.int .i64 k) (.int .i64 b) (.int .i64 j) (.int .i64 e) (.slice l d.length m);have D:=Keep.put5 w1 w.heap.size (.int .i64 k) (.int .i64 b) (.int .i64 j) (.int .i64 e) (.slice l d.length m);unfold put5 at o D;have E:=(C.trans D iq).drew;replace o:=o.drew;refine ZT (fun w'=>cl w' (aq g (i*6)) (ii k)/\cl w' (aq g (i*6+1)) (ii b)/\cl w' (aq g (i*6+2)) (ii j)/\cl w' (aq g (i*6+3)) (ii e)/\cl w' (aq g (i*6+4)) (.slice l d.length m)/\cl w' (aq g (i*6+5)) (.bool is)) 9 [[0,1,2,3,4,5,6,7],[8]] (p _ (C.tO kq.drew)) ?_;simp only[PI];iterate 8 refine wG ?_
 refine JB rq fun K H=>?_;go_wp2_with fail;refine H _ _ (p _ E) ?_
 try simp only[Act.put,PU]
 refine VB ?_;go_wp2_with fail;obtain⟨I,J,M,N,O⟩:=ZE o;exact Ac (v:=.tuple #[.agg #[ii k,ii b,ii j,ii e,.slice l d.length m],.bool is]) (by simp[results,results266,go_sem,I,J,M,N,O]) rfl ⟨_,rfl,rfl,⟨_,_,rfl⟩,E⟩
end
theorem KAk (sl:List PSlot) (i:Nat) (hi:i<sl.length) (y:PSlot) :
 ((((((sl.flatMap slc).set (i*6) (.int .i64 y.o.k)).set (i*6+1) (.int .i64 y.o.b)).set (i*6+2) (.int .i64 y.o.c)).set (i*6+3) (.int .i64 y.o.e)).set (i*6+4) y.v).set (i*6+5) (.bool y.is)=(sl.set i y).flatMap slc:=by
 rw[show (sl.flatMap slc).set (i*6) (.int .i64 y.o.k)=(sl.flatMap slc).set (i*6+0) (.int .i64 y.o.k) from rfl,VY JK sl i 0 hi Z _ ⟨sl[i].v,⟨y.o.k,sl[i].o.b,sl[i].o.c,sl[i].o.e,sl[i].o.d⟩,sl[i].is⟩ rfl,
  VY JK _ i 1 (uq hi) Z _ ⟨sl[i].v,⟨y.o.k,y.o.b,sl[i].o.c,sl[i].o.e,sl[i].o.d⟩,sl[i].is⟩ (by simp[slc]),Dl,
  VY JK _ i 2 (uq hi) Z _ ⟨sl[i].v,⟨y.o.k,y.o.b,y.o.c,sl[i].o.e,sl[i].o.d⟩,sl[i].is⟩ (by simp[slc]),Dl,
  VY JK _ i 3 (uq hi) Z _ ⟨sl[i].v,⟨y.o.k,y.o.b,y.o.c,y.o.e,sl[i].o.d⟩,sl[i].is⟩ (by simp[slc]),Dl,
  VY JK _ i 4 (uq hi) Z _ ⟨y.v,⟨y.o.k,y.o.b,y.o.c,y.o.e,sl[i].o.d⟩,sl[i].is⟩ (by simp[slc]),Dl,
  VY JK _ i 5 (uq hi) Z _ y (by simp[slc]),Dl]
def put6 (w:World) (g i:Nat) (y:PSlot):World:=
 (((((w.setCell (aq g (i*6)) (.int .i64 y.o.k)).setCell (aq g (i*6+1)) (.int .i64 y.o.b)).setCell (aq g (i*6+2)) (.int .i64 y.o.c)).setCell (aq g (i*6+3)) (.int .i64 y.o.e)).setCell (aq g (i*6+4)) y.v).setCell (aq g (i*6+5)) (.bool y.is)
theorem Keep.put6 (w:World) (g i:Nat) (y:PSlot):Keep [g] w (Go.Proofs.YtfedaknhecbehaaGreat.put6 w g i y):=by
 unfold Go.Proofs.YtfedaknhecbehaaGreat.put6;exact((((((Keep.refl [g] w).setCell (.inl sq) _).setCell (.inl sq) _).setCell (.inl sq) _).setCell (.inl sq) _).setCell (.inl sq) _).setCell (.inl sq) _
theorem WinIs.setSlot {w d:World} {base x:Nat} {L:Value} {F:List Nat} {next:Nat} {sl:List PSlot} (h:WinIs w base x L F next sl) (l:kz w d) (g c:Nat) (j:L=.slice (some g) sl.length c) (i:Nat) (hi:i<sl.length) (y:PSlot)
 (s:d.ownsRow base 5 1 y.v y.o.d.length (bys y.o.d)) (t:y.is=false->y=PSlot.none_) :
 ∃ o,WinIs (put6 d g i y) base x L o next (sl.set i y)/\Keep F w (put6 d g i y)/\∀ z∈o,z∈F\/z∈y.v.ownBlock.toList:=by
 have e:=h.kO l;have k:=Keep.put6 d g i y;have u:x∉[g]:=fun f=>e.xL (by rw[j];simp at f;simp[Value.ownBlock,f])
 have p:∀ {q:Value} {n:Nat} {ys:List Value},d.ownsRow base 5 1 q n ys->(put6 d g i y).ownsRow base 5 1 q n ys:=fun a=>KA a k (fun z b f=>by
  simp at f;subst f;exact own_ne a e.row (by decide) b (by rw[j];rfl))
 have v:(put6 d g i y).ownsRow base 313 6 L (sl.set i y).length ((sl.set i y).flatMap slc):=by
  rw[<- KAk sl i hi y,Bl];have A:=e.row;subst j;exact QQ (QQ (QQ (QQ (QQ (QQ A _ _) _ _) _ _) _ _) _ _) _ _
 refine⟨_,⟨e.blk.keep k u,v,fun q a=>?_,rfl,h.base,uq h.pos,uq h.few,fun q a r=>?_,h.nb⟩,?_,fun z b=>?_⟩
 . rcases AS a with a | rfl
   . exact p (e.dat q a)
   exact p s
 . rcases AS a with a | rfl
   . exact h.zero q a r
   exact t r
 . exact l.zero.trans (k.sub (m:=F) (fun z b=>by simp at b;subst b;exact h.inL _ (by rw[j];simp[Value.ownBlock]))) (fun z b=>.inl b)
 simp only[AL,AD,Bs] at b
 rcases b with rfl | b | ⟨q,a,b⟩
 . exact .inl h.inX
 . exact .inl (h.inL _ b)
 rcases AS a with a | rfl
 . exact .inl (h.inQ a _ b)
 exact .inr b
theorem WinIs.setNext {w:World} {base x:Nat} {L:Value} {F:List Nat} {next:Nat} {sl:List PSlot} (h:WinIs w base x L F next sl) (n:Nat) (e:1<=n/\n<=2000000000) :
 WinIs (w.setCell (aq x 1) (.int .i64 n)) base x L F n sl/\Keep F w (w.setCell (aq x 1) (.int .i64 n)):=by
 have c:Keep [x] w (w.setCell (aq x 1) (.int .i64 n)):=kq.sc x 1
 exact⟨⟨uq (h.blk.set 1 (.int .i64 n)),KA h.row c (fun z a b=>by simp at b;subst b;exact h.xL (uq a)),fun q d=>KA (h.dat q d) c (fun z a b=>by simp at b;subst b;exact h.xQ d (uq a)),
  h.foot,h.base,h.pos,h.few,h.zero,e⟩,c.sub (fun z a=>by simp at a;subst a;exact h.inX)⟩
theorem PSlot.none_dat (w:World) (base:Nat):w.ownsRow base 5 1 PSlot.none_.v PSlot.none_.o.d.length (bys PSlot.none_.o.d):=AZ _ _ _ _
section
variable (w:World) (base x:Nat) (L:Value) (F:List Nat) (next:Nat) (sl:List PSlot) (h:WinIs w base x L F next sl)
include h
theorem YBC (f:(sl.getD (next % sl.length) PSlot.none_).is=true):Calls prog 268 #[pq x] w fun e w'=>e=.returned (.bool true)/\∃ l,WinIs w' base x L l next (sl.set (next % sl.length) PSlot.none_)/\Keep F w w'/\∀ z∈l,z∈F:=by
 obtain⟨g,c,m,I⟩:=h.form;have p:next % sl.length<sl.length:=Bk _ h.pos;have s:=PeekW_is w base x L F next sl h;have r:=fun W (a:kz w W)=>XAb W base x L F next sl (h.kO a) g c m next (by have:=h.nb;omega);have t:=fun W (a:kz w W)=>h.setSlot a g c m (next % sl.length) p PSlot.none_ (PSlot.none_dat W base) (fun _=>rfl);have A:=fun W (a:kz w W)=>(h.kO a).cells.2;have B:=h.blk.lt;have n:=fun W (a:kz w W)=>(h.kO a).slot W base x L F next sl g c m (next % sl.length) p;have k:∀ W,kz w W->∀ j,W.frozen? ⟨g,j,none⟩=false:=fun W a j=>YP (by have:=(h.kO a).row;rw[m] at this;exact this) j;clear h;generalize sl[next % sl.length]=q0 at n;obtain⟨J,K,M⟩:=q0;simp only at n;obtain⟨i,hi⟩:=ex (next % sl.length);rw[<- hi] at r t n p;have C:=ZB hi;have D:=ZB f;clear f hi;go_enter func268,ntmps268
 go_wp2_with (first
  | (go_at_call 266
     refine s.mono ?_;clear s;rintro e w1 ⟨q,f,rfl,⟨N,O,u⟩,o⟩;rw[<- f,ZA D,f,u];clear f u;have P:=A w1 o
     have Q:x<w1.heap.size:=BP B o.size)
  | (go_at_call 265
     refine(r _ (by exact o.alloc _)).mono ?_;clear r;rintro e b ⟨rfl,E⟩;have d:=(o.alloc _).tO E;obtain⟨R,S,T,U,V,X⟩:=n b d;have Y:=k b d (i*6);have f1:=k b d (i*6+1);have f2:=k b d (i*6+2);have f3:=k b d (i*6+3);have f4:=k b d (i*6+4);have f5:=k b d (i*6+5)))
 go_ret;obtain⟨l,v,y,G⟩:=t b d;simp only[put6,PSlot.none_,POp.zero] at v y;rw[<- ZA C];simp only[PSlot.none_,POp.zero];refine⟨rfl,l,v,y,fun z H=>(G z H).resolve_right (by simp[PSlot.none_,Value.ownBlock])⟩
theorem KAo (M:(sl.getD (next % sl.length) PSlot.none_).is=true) (X:next<=1000000000):Calls prog 269 #[pq x] w fun e w'=>∃ v b,e=.returned (.tuple #[v,b])/\∃ i,WinIs w' base x L i (next+1) (sl.set (next % sl.length) PSlot.none_)/\Keep F w w'/\∀ z∈i,z∈F:=by
 have N:=PeekW_is w base x L F next sl h;have u:=fun W (O:kz w W)=>YBC W base x L F next sl (h.kO O) M;have y:=h.lt;have Y:=h.blk.lt;go_enter func269,ntmps269;have j:kz w (w.alloc (.cells #[zz,zz,zz,zz,zn] 95)):=kq.alloc _;have A:=PeekW_is _ base x L F next sl (h.kO j);have a:=Blk.new w 95 #[zz,zz,zz,zz,zn]
 go_wp2_with (first
  | (go_at_call 266
     refine A.mono ?_;clear A N;rintro e w1 ⟨q,P,rfl,⟨c,d,B⟩,k⟩;rw[B];clear P B;have C:=u _ ((j.tO k).alloc (.cells #[ii q.o.k,ii q.o.b,ii q.o.c,ii q.o.e,.slice c q.o.d.length d] 95));have m:=Blk.new w1 95 #[ii q.o.k,ii q.o.b,ii q.o.c,ii q.o.e,.slice c q.o.d.length d];replace a:=a.kO (k.alloc (.cells #[ii q.o.k,ii q.o.b,ii q.o.c,ii q.o.e,.slice c q.o.d.length d] 95))
     clear u)
  | (go_at_call 268
     refine C.mono ?_;clear C;rintro e n ⟨rfl,i,o,p,r⟩;have a0:=(j.tO k).size;have D:w.heap.size∉F:=fun f=>by have:=y _ f;omega
     have Q:w1.heap.size∉F:=fun f=>by have:=y _ f;omega
     replace a:=a.keep p D;replace m:=m.keep p Q;obtain⟨v0,v1,v2,v3,v4⟩:=ZE m;obtain⟨z0,z1,z2,z3,z4⟩:=ZE a;have f0:=a.frozen 0;have f1:=a.frozen 1;have f2:=a.frozen 2;have f3:=a.frozen 3;have f4:=a.frozen 4;have k1:=o.cells.2;have s:=o.blk.frozen 1;have R:x≠w.heap.size:=Z
     have a1:x≠w1.heap.size:=by omega))
 obtain⟨S,E⟩:=o.setNext (next+1) Z;have T:Keep [x] n (n.setCell (aq x 1) (.int .i64 (next+1:Nat))):=kq.sc x 1;have U:=a.keep T (by simpa using fun e=>R e.symm);have G:=U.put5 (.int .i64 q.o.k) (.int .i64 q.o.b) (.int .i64 q.o.c) (.int .i64 q.o.e) (.slice c q.o.d.length d);have l:=Keep.put5 (n.setCell (aq x 1) (.int .i64 (next+1:Nat))) w.heap.size (.int .i64 q.o.k) (.int .i64 q.o.b) (.int .i64 q.o.c) (.int .i64 q.o.e) (.slice c q.o.d.length d);have t:=S.keep l (fun z g f=>by simp at f;subst f;exact D (r _ g));unfold put5 at G l t;obtain⟨H,s,I,J,K⟩:=ZE G;have V:((next+1:Nat):Int)=(next:Nat)+1:=Z
 rw[V] at H s I J K t l E;refine Ac (v:=.tuple #[.agg #[ii q.o.k,ii q.o.b,ii q.o.c,ii q.o.e,.slice c q.o.d.length d],.bool q.is]) (by simp[results,results269,go_sem,H,s,I,J,K]) rfl ⟨_,_,rfl,i,t,?_,r⟩;exact((((j.tO k).alloc _).zero.trans p (fun z g=>.inl g)).trans E (fun z g=>.inl (r z g))).trans l iq
end
theorem elemSlot:ElemN prog 304 313 (.agg #[zz,zz,zz,zz,zn,.bool false]) 6 64:=ElemN.of underlying304 (by kernel_rfl) rfl Z
section
variable (w:World) (base x:Nat) (L:Value) (F:List Nat) (next:Nat) (sl:List PSlot) (h:WinIs w base x L F next sl)
include h
theorem XBS (n:Nat) (j:n<next) (k b c e:Int) (A:Option Addr) (d f:Nat):cr 153 #[pq x,n,.agg #[ii k,ii b,ii c,ii e,.slice A d f]] w (ii 9):=by
 have g:=fun W (i:kz w W)=>noneW_is W base x L F next sl (h.kO i);have a:kz w (w.alloc (.cells #[ii k,ii b,ii c,ii e,.slice A d f] 95)):=kq.alloc _;have l:=(h.kO a).cells.2;have m:((n:Nat):Int)<(next:Nat):=Z
 go_enter func153,ntmps153;go_wp2_with (refine(g _ a).mono ?_;clear g;rintro r w' ⟨rfl,rfl⟩);go_ret;exact⟨rfl,a⟩
theorem JBP (n:Nat) (o:next+sl.length<=n) (t:n<=2147483647) (k b c e:Int) (A:Option Addr) (d f:Nat):cr 153 #[pq x,n,.agg #[ii k,ii b,ii c,ii e,.slice A d f]] w (ii 10):=by
 have i:=fun W (p:kz w W)=>noneW_is W base x L F next sl (h.kO p);have a:kz w (w.alloc (.cells #[ii k,ii b,ii c,ii e,.slice A d f] 95)):=kq.alloc _;obtain⟨g,q,j,u⟩:=h.form;obtain⟨l,s⟩:=(h.kO a).cells;have v:=h.nb;have y:¬ ((n:Nat):Int)<(next:Nat):=Z
 have z:((next:Nat):Int)+(sl.length:Nat)<=(n:Nat):=Z
 rw[j] at l;generalize sl.length=m at *;clear o j h;go_enter func153,ntmps153;go_wp2_with (refine(i _ a).mono ?_;clear i;rintro r w' ⟨rfl,rfl⟩);refine ZT (fun w'=>cl w' x (.slice (some g) m q)/\cl w' (aq x 1) next) 11 [[0,1,2,3,4,5,6,7,8,9,10]] ⟨l,s⟩ ?_;simp only[PI];iterate 11 refine wG ?_
 refine VB ?_;go_wp2_with fail;go_ret;exact⟨rfl,a.drew⟩
theorem ZBF (n:Nat) (a4:next<=n) (hn:n<next+sl.length) (a5:n<=2147483647) (B:(sl.getD (n % sl.length) PSlot.none_).is=false) (k b c e:Int) (A:Option Addr) (f:Nat) (d:List UInt8) (hd:w.ownsRow base 5 1 (.slice A d.length f) d.length (bys d)) :
 Calls prog 153 #[pq x,n,.agg #[ii k,ii b,ii c,ii e,.slice A d.length f]] w fun r w'=>r=.returned zz /\
  ∃ t,WinIs w' base x L t next (sl.set (n % sl.length) ⟨.slice A d.length f,⟨k,b,c,e,d⟩,true⟩)/\Keep F w w'/\∀ z∈t,z∈F\/z∈(Value.slice A d.length f).ownBlock.toList:=by
 have I:=fun W (a:kz w W)=>noneW_is W base x L F next sl (h.kO a);have u:kz w (w.alloc (.cells #[ii k,ii b,ii c,ii e,.slice A d.length f] 95)):=kq.alloc _;have a0:=Blk.new w 95 #[ii k,ii b,ii c,ii e,.slice A d.length f];obtain⟨g,v,p,hc⟩:=h.form;obtain⟨C,k1⟩:=(h.kO u).cells;have hi:n % sl.length<sl.length:=Bk _ h.pos;have D:=fun W (a:kz w W)=>XAb W base x L F next sl (h.kO a) g v p n Z;have J:=fun W (a:kz w W)=>h.setSlot a g v p (n % sl.length) hi ⟨.slice A d.length f,⟨k,b,c,e,d⟩,true⟩ (QB hd a) (fun h=>by cases h);have s:=fun W (a:kz w W)=>(h.kO a).slot W base x L F next sl g v p (n % sl.length) hi;have q:∀ W,kz w W->∀ j,W.frozen? ⟨g,j,none⟩=false:=fun W a j=>YP (by have:=(h.kO a).row;rw[p] at this;exact this) j;have E:sl[n % sl.length].is=false:=by rw[AA,AC hi] at B;exact B
 have a6:¬ ((n:Nat):Int)<(next:Nat):=Z
 have a1:((n:Nat):Int)<((next:Nat):Int)+(sl.length:Nat):=Z
 rw[p] at C;generalize sl[n % sl.length]=q0 at s E;obtain⟨a7,a8,a9⟩:=q0;simp only at s E;subst E;obtain⟨i,G⟩:=ex (n % sl.length);rw[<- G] at D J s hi;have a2:=ZB G;obtain⟨m,y⟩:=ex sl.length;have aa:m<=16:=by rw[y];exact h.few
 have ab:=h.nb;rw[<- y] at C a1;have ac:=ZB y;clear B G hn y p h;go_enter func153,ntmps153;go_wp2_with (refine(I _ u).mono ?_;clear I;rintro r w' ⟨rfl,rfl⟩);have M:=D _ u.drew;refine ZT (fun w'=>cl w' x (.slice (some g) m v)/\cl w' (aq x 1) next) 11 [[0,1,2,3,4,5,6,7,8,9,10]] ⟨C,k1⟩ ?_;simp only[PI];iterate 11 refine wG ?_
 refine VB ?_
 go_wp2_with (go_at_call 265
              refine M.mono ?_;clear M;rintro r w1 ⟨rfl,N⟩;have H:=u.drew.tO N;obtain⟨O,P,Q,R,S,T⟩:=s w1 H)
 have U:=a0.kO (kq.drew.tO N);have V:=D w1.drew H.drew;obtain⟨o0,o1,o2,o3,o4⟩:=ZE U.drew;clear O P Q R S T;refine ZT (fun w'=>cl w' w.heap.size (ii k)/\cl w' (aq w.heap.size 1) (ii b)/\cl w' (aq w.heap.size 2) (ii c)/\cl w' (aq w.heap.size 3) (ii e)/\cl w' (aq w.heap.size 4) (.slice A d.length f)) 5 [[0,1,3,4],[2]] ⟨o0,o1,o2,o3,o4⟩ ?_;simp only[PI];iterate 4 refine wG ?_
 refine JB rq fun K a3=>?_;go_wp2_with (refine V.mono ?_;clear V;rintro r l ⟨rfl,X⟩);have o:=H.drew.tO X;refine a3 _ _ (ZE (U.drew.kO X)) ?_
 try simp only[Act.put,PU]
 refine VB ?_;obtain⟨O,P,Q,R,S,T⟩:=s l o;have f0:=q l o (i*6);have f1:=q l o (i*6+1);have f2:=q l o (i*6+2);have f3:=q l o (i*6+3);have f4:=q l o (i*6+4);have f5:=q l o (i*6+5);go_wp2_with fail;go_ret;obtain⟨t,Y,r2,r3⟩:=J l o;simp only[put6] at Y r2;rw[<- ZA a2];exact⟨rfl,t,Y,r2,r3⟩
end
section
open Go.RowKit Go.Shelf
attribute [local go_sem] AW
theorem WinIs.putObj {base x next:Nat} {L:Value} {F:List Nat} {sl:List PSlot} {o:Obj} (h:WinIs W base x L F next sl) (a:Obj) (b:W.heap[k]? = some o) (c:o.isCells=false):WinIs (W.putObj k a) base x L F next sl:=
 ⟨XH a h.blk b c,ownsRow_putObj h.row a b c,fun q d=>ownsRow_putObj (h.dat q d) a b c,h.foot,h.base,h.pos,h.few,h.zero,h.nb⟩
abbrev WRnd:=Nat×PSlot
def JAy (x:WRnd):Array Value:=#[x.1,.agg #[ii x.2.o.k,ii x.2.o.b,ii x.2.o.c,ii x.2.o.e,x.2.v]]
def JBi (base x bc next:Nat) (L:Value) (F:List Nat) (sl:List PSlot) (W W':World):Prop:=
 (Boxed W bc 206 (.pointer (some x))->Boxed W' bc 206 (.pointer (some x)))/\(WinIs W base x L F next sl->WinIs W' base x L F next sl)
def cyc (next:Nat) (sl:List PSlot) (k:Nat):Nat:=(List.range k).countP (fun j=>(sl.getD ((next+j) % sl.length) PSlot.none_).is)
theorem QAY (next:Nat) (sl:List PSlot) (k:Nat):cyc next sl (k+1)=cyc next sl k+if (sl.getD ((next+k) % sl.length) PSlot.none_).is then 1 else 0:=by
 unfold cyc;rw[Bq,Ce,D9]
theorem KBh (next:Nat) (sl:List PSlot) (k:Nat):cyc next sl k<=k:=by
 unfold cyc;have:=Ca (p:=fun j=>(sl.getD ((next+j) % sl.length) PSlot.none_).is) (l:=List.range k);simpa using this
theorem QBY (n:Nat) (v:Value) (w:World) (a:v.oneCell'=true) :
 CallsIn Fence.wide n prog 276 #[v] w fun e w'=>e=.returned (.func (.func 358) #[] #[pq w.heap.size])/\w'=w.alloc (.cells #[v] 206):=by
 refine(AQ (n:=n)).2 ?_;go_enter func276,ntmps276
 go_wp2
 go_ret;exact⟨rfl,rfl⟩
theorem KBD {b base x next:Nat} (n:Nat) {L:Value} {F:List Nat} {sl:List PSlot} {w:World} (a:WinIs w base x L F next sl) (c:Boxed w b 206 (.pointer (some x))) :
 ZBI n prog 358 #[pq b] JAy (fun pre _ _=>pre.length<=16) (JBi base x b next L F sl) (fun xs=>xs.length=cyc next sl sl.length) w:=by
 intro l a0 W N B a1 O;replace a:=a.kO N;replace c:Boxed W b 206 (.pointer (some x)):=(N.block b c.lt sq).trans c;have r:=c.cell;obtain⟨g,s,C,ad⟩:=a.form;have P:=AQ (n:=n-1).2 (noneW_is W base x L F next sl a);have a2:=a.cells.2;have ae:=a.nb;have af:=a.few;have a3:=a.pos;obtain⟨m,t⟩:=ex sl.length;have ag:m<=16:=Z
 have a4:=ZB t;refine Cd func358 rfl trivial ?_ rfl;simp only[ntmps358,PL,Nat.reduceAdd,Nat.reduceSub];gi_wp2_with (refine⟨trivial,fun h=>by simp[Fence.wide] at h,?_⟩;refine P.mono ?_;clear P;rintro e w' ⟨rfl,rfl⟩)
 gi_loopw [3,4] (fun i _ wr=>∃ (k:Nat) (pre:List WRnd),k<=m/\i=.int .i64 ((next+k:Nat))/\a0 pre wr/\Hid (pre.length=cyc next sl k)/\WinIs wr base x L F next sl/\Boxed wr b 206 (.pointer (some x)))
  (fun i _ _=>next+m-(intOf i).toNat)
 case atStart=>exact⟨0,[],AP _,rfl,O,rfl,a,c⟩
 clear a c O r a2;obtain⟨k,pre,hk,rfl,D,u,a,c⟩:=hrel;have r:=c.cell;obtain⟨E,Q⟩:=a.cells;rw[C,<- t] at E;obtain⟨z,p⟩:=ex (next+k);have o:=ZB p;rw[<- p];by_cases a5:k<m
 . have a6:((z:Nat):Int)<((next:Nat):Int)+(m:Nat):=Z
   have a7:z<=4000000000:=Z
   have v:=fun W (h:WinIs W base x L F next sl)=>AQ (n:=n-1).2 (XAb W base x L F next sl h g s C z a7);have hi:z % sl.length<sl.length:=Bk _ a3;have G:=fun W (h:WinIs W base x L F next sl)=>h.slot W base x L F next sl g s C (z % sl.length) hi;have y:=QAY next sl k;have R:sl.getD ((next+k) % sl.length) PSlot.none_=sl[z % sl.length]:=by rw[<- p,AA,AC hi];rfl
   have H:=a.dat sl[z % sl.length] (AN _);rw[R] at y;clear R;generalize sl[z % sl.length]=q at *;obtain⟨qv,⟨qk,qb,qc,qe,S⟩,is⟩:=q;simp only at G y H;obtain⟨a8,a9,rfl,_⟩:=XB H;have T:=ZB y;have ah:=ZB a;have A:=a.kO (Keep.refl [] wr).drew;have I:Boxed wr.drew b 206 (.pointer (some x)):=JA c (Keep.refl [] _).drew sq;clear p t y a a5 H
   gi_wp2
   refine Ck.2 ?_;refine ZT (fun w'=>cl w' b (pq x)/\cl w' x (.slice (some g) m s)/\cl w' (aq x 1) next) 11 [[0,1,2,3,4,5,6,7,8,9,10]] ⟨r,E,Q⟩ ?_;simp only[PI];iterate 11 refine wG ?_
   refine VB ?_;go_wp2_with fail;have ai:=I.cell;cases is
   . gi_wp2_with (
      refine⟨trivial,fun h=>by simp[Fence.wide] at h,?_⟩;refine(v _ A).mono ?_;clear v;rintro e w1 ⟨rfl,d⟩;have j:=A.kO d;have J:=JA I d sq;have K:=B _ _ _ D ((Keep.refl [] wr).drew.tO d);obtain⟨s0,s1,s2,s3,s4,s5⟩:=G w1 j;have M:=ZB j;clear j)
     refine⟨fun f h=>(by cases h),?_⟩
     gi_wp2
     go_roundw;case rel=>exact⟨k+1,pre,by have:=ZA o;omega,by have:=ZA o;subst this;go_num,K,by show _=_;rw[ZA u,ZA T];rfl,ZA M,J⟩
     case measure=>simp[intOf];have:=ZA o;omega
   gi_wp2_with (
    refine⟨trivial,fun h=>by simp[Fence.wide] at h,?_⟩;refine(v _ A).mono ?_;clear v;rintro e w1 ⟨rfl,d⟩;have j:=A.kO d;have J:=JA I d sq;have K:=B _ _ _ D ((Keep.refl [] wr).drew.tO d);obtain⟨s0,s1,s2,s3,s4,s5⟩:=G w1 j;have M:=ZB j;clear j;obtain⟨fn,aj,ak,al,U,V⟩:=a1 pre (z,⟨.slice a8 S.length a9,⟨qk,qb,qc,qe,S⟩,true⟩) w1 K (by have:=KBh next sl k;rw[ZA u];omega);dsimp only[JAy] at U)
   refine⟨fun h=>by simp[Fence.wide] at h,V.mono ?_⟩;rintro e am ⟨rfl,aa,X,Y⟩;have ab:=ZB (Y (ZA M));have ac:=X J;clear U V Y X
   gi_wp2
   go_roundw;case rel=>exact⟨k+1,_,by have:=ZA o;omega,by have:=ZA o;subst this;go_num,aa,by show _=_;rw[AE,ZA u,ZA T];rfl,ZA ab,ac⟩
   case measure=>simp[intOf];have:=ZA o;omega
 obtain rfl:m=k:=Z
 have a6:¬ ((z:Nat):Int)<((next:Nat):Int)+(m:Nat):=Z
 clear p t
 gi_wp2
 refine Ck.2 ?_;refine ZT (fun w'=>cl w' b (pq x)/\cl w' x (.slice (some g) m s)/\cl w' (aq x 1) next) 11 [[0,1,2,3,4,5,6,7,8,9,10]] ⟨r,E,Q⟩ ?_;simp only[PI];iterate 11 refine wG ?_
 refine VB ?_;go_wp2_with fail
 gi_wp2
 go_end0
 exact⟨⟨_,rfl⟩,pre,by rw[ZA u,<- ZA a4],B _ _ _ D (Keep.refl [] _).drew⟩
end
section
open Go.RowKit Go.Shelf
attribute [local go_sem] AW
structure KLen (w:World) (pre:List WRnd) (W:World):Prop where
 cnt:Boxed W w.heap.size 3 (.int .i64 (pre.length:Nat))
 keep:kz w W
theorem KLen.kept {w B:World} {pre:List WRnd} (h:KLen w pre A) (a:kz A B):KLen w pre B:=⟨JA h.cnt a sq,h.keep.tO a⟩
theorem KLen.turned {w:World} {pre:List WRnd} {o a:Obj} (h:KLen w pre W) (b:w.heap.size<=k) (c:W.heap[k]? = some o) (d:o.isCells=false):KLen w pre (W.putObj k a):=
 ⟨ZC a h.cnt c d,h.keep.putObj b a⟩
theorem QBX {w:World} {base x next:Nat} {L:Value} {F:List Nat} {sl:List PSlot} (h:WinIs w base x L F next sl) :
 cr 161 #[pq x] w (cyc next sl sl.length:Nat):=by
 refine(AQ (n:=3)).1 ?_;refine callsIn_of_wp_marks func161 rfl trivial ?_ rfl;simp only[ntmps161,PL,Nat.reduceAdd,Nat.reduceSub]
 gi_wp2_with (first
  | (refine⟨trivial,?_⟩;refine(QBY _ _ _ rfl).mono ?_;rintro e w' ⟨rfl,rfl⟩))
 obtain⟨w1,i⟩:=ex (w.alloc (.cells #[zz] 3));obtain⟨j,m⟩:=ex (w1.alloc (.cells #[pq x] 206));rw[<- i,<- m];have O:w1.heap.size=w.heap.size+1:=by rw[i,AM]
 have s2:j.heap.size=w.heap.size+2:=by rw[m,AM,O]
 have D:kz w w1:=by rw[i];exact kq.alloc _
 have r:kz w1 j:=by rw[m];exact kq.alloc _
 have t:kz w j:=D.tO r;have E:Boxed j w.heap.size 3 (.int .i64 0):=JA (by rw[i];exact Boxed.new w _ _) r sq;have G:Boxed j (w.heap.size+1) 206 (.pointer (some (aq x 0))):=by rw[m,<- O];exact Boxed.new w1 _ _
 have H:KLen w [] j:=⟨E,t⟩;have U:=h.lt;have I:=KBD 2 (h.kO t) G
 refine ZU (n:=3) (gf:=358) (lb:=#[pq (w.heap.size+1)]) rfl (enters_of func358 (by kernel_rfl) rfl)
  I
  (fun A B C h k=>⟨fun f=>k.1 (h.1 f),fun f=>k.2 (h.2 f)⟩)
  (fun W l o u P p c=>⟨fun f=>ZC u f p c,fun J=>J.putObj u p c⟩)
  (fun _=>rfl) (KLen w) (fun s A B h V=>h.kept V) (fun s W l o u h P p c=>h.turned Z p c)
  (fun pre x W l o u h P p c=>h) H
  (fun y=>{ tmps:=#[pq x,undef,pq w.heap.size,pq x,
    .func (.func 358) #[] #[.pointer (some ⟨w.heap.size+1,0,none⟩)],.int .i64 (y.1:Nat),.agg #[.int .i64 y.2.o.k,.int .i64 y.2.o.b,.int .i64 y.2.o.c,.int .i64 y.2.o.e,y.2.v],undef,undef,undef],defers:=[] }) ?assign ?body ?done
 case assign=>
  rintro l ⟨k,z⟩ W K Q;dsimp only[JAy] at Q ⊢
  gi_wp2
  simpa using Q
 case body=>
  rintro l pre ⟨k,z⟩ W b X;dsimp only;obtain⟨q,d⟩:=ex pre.length;have a:=b.cnt;have a3:q<=16:=by rw[d];exact X
  rw[<- d] at a;have Y:=a.cell;have a0:=a.frozen;have a4:=a.lt;have M:=ZB b;have N:=ZB d;clear H E G t D r i m I b d
  gi_wp2
  have b:=ZA M;have v:Keep [w.heap.size] W (W.setCell w.heap.size (.int .i64 ((q:Nat)+1))):=kq.sc w.heap.size 0;refine⟨v.fromCells (fun g hg o c=>?_) _,⟨fun f=>JA f v sq,fun J=>J.keep v (fun x hx=>by have:=U x hx;simp;omega)⟩,⟨?_,b.keep.trans v iq⟩⟩
  . rw[Ag.1 hg] at c
    rw[show W.heap[_]? = _ from a] at c;cases c;rfl
  have:=a.set (.int .i64 ((q:Nat)+1))
  rw[AE,<- ZA N];simpa using this
 case done=>
  intro D' xs W a5 a1 b R;have a:=b.cnt;rw[a1] at a;obtain⟨q,d⟩:=ex (cyc next sl sl.length);rw[<- d] at a;have N:=ZB d;clear d;have Y:=a.cell;have a0:=a.frozen;have M:=ZB b;clear H E G t D r i m I b
  gi_wp2
  have b:=ZA M;have S:Keep [w.heap.size] W (W.setCell w.heap.size (.int .i64 (q:Nat))):=kq.sc w.heap.size 0;have T:(W.setCell w.heap.size (.int .i64 (q:Nat))).heap[D']? = some (.deferred (some [])):=(S.block D' (AR.1 R).1 (by simp;omega)).trans R;have q6:=(ZC (.deferred none) (a.set (.int .i64 (q:Nat))) T rfl).cell;have a2:=(b.keep.trans S iq).putObj (g:=D') Z (.deferred none);refine⟨sq,.inl ⟨_,_,rfl,run_takeDeferred T,?_⟩⟩;refine⟨.int .i64 (q:Nat),?_,by rw[ZA N],a2⟩;simp[results,results161,go_sem,q6]
theorem ZAn (m:Nat):(madeCells #[zz,zz,zz,zz,zn,.bool false] (m*6)).toList=(QD m).flatMap slc:=by
 apply By;intro j;by_cases b:j<m*6
 . have c:(QD m)[j / 6]'(by simp[QD];omega)=PSlot.none_:=by simp[QD]
   have a:=YN JK (QD m) (j / 6) (j % 6) (by simp[QD];omega) Z;rw[show j / 6*6+j % 6=j from Z,c] at a;rw[a];have:j % 6=0\/j % 6=1\/j % 6=2\/j % 6=3\/j % 6=4\/j % 6=5:=Z
   rw[Array.getElem?_toList,madeCells,Array.getElem?_map,Array.getElem?_range,AJ b];simp only[Az,Ay,Ao,Ai];rcases this with h | h | h | h | h | h <;> (rw[show j % (0+1+1+1+1+1+1)=j % 6 from rfl,h];rfl)
 rw[Bc (by rw[C5,De];omega),Bc (by rw[Jj JK];simp[QD];omega)]
theorem VAM (m next:Nat) (c:1<=m) (d:m<=16) (k:1<=next/\next<=1000000000) (w:World) :
 Calls prog 146 #[m,next] w fun e w'=>∃ x,e=.returned (pq x)/\∃ F,WinAt w' w.heap.size x F next (QD m)/\kz w w':=by
 have l:¬ ((m:Nat):Int)<1:=Z
 have n:¬ (16:Int)<((m:Nat):Int):=Z
 have o:¬ ((next:Nat):Int)<1:=Z
 have p:¬ (2147483647:Int)<((next:Nat):Int):=Z
 go_enter func146,ntmps146;go_wp2_with (at_make;refine elemSlot.wp_make rfl _ _ rfl .i64 .i64 m rfl rfl Z Z ?_;intro w1 f g h i b;obtain rfl:f=w.heap.size:=g;clear h);go_ret
 have j:w1.ownsRow w.heap.size 313 6 (.slice (some w.heap.size) m m) m ((QD m).flatMap slc):=
  ⟨by rw[Jj JK];simp[QD],.inr ⟨w.heap.size,m,_,rfl,AG _,i,AG _,by simp[maxLen];omega,by rw[De],by rw[<- ZAn];exact AK (by rw[C5,De];exact AG _)⟩⟩
 refine⟨_,rfl,⟨_,_,Blk.new _ _ _,by have:=XE j (.cells #[.slice (some w.heap.size) m m,next] 306);simpa [QD] using this,fun q a=>?_,rfl,b.size,by simpa [QD] using c,by simpa [QD] using d,fun q a _=>?_,Z⟩,b.alloc _⟩
 . rw[AX a];exact PSlot.none_dat _ _
 exact AX a
theorem VAq (m:Int) (next:Nat) (h:m<1\/16<m) (w:World) :
 cq 146 #[ii m,next] w (.pointer none):=by
 rcases h with h | h
 . go_enter func146,ntmps146
   go_wp2
   go_ret;exact⟨rfl,rfl⟩
 have a:¬ m<1:=Z
 go_enter func146,ntmps146
 go_wp2
 go_ret;exact⟨rfl,rfl⟩
end
structure ReplicaIs (w:World) (base r s d x:Nat) (Fs Fx:List Nat) (B:Nat) (R:RS):Prop where
 blk:Blk w r 209 #[pq s,pq x]
 st:StoreAt w base s d Fs B R.S
 win:WinAt w base x Fx R.next R.sl
 ap:Apart Fs Fx
 rs:r∉Fs
 rx:r∉Fx
 rb:base<=r
 mode:R.S.st.mode=1
 view:1<=R.S.st.view/\R.S.st.view<=2147483647
def YJ (r:Nat) (Fs Fx:List Nat):List Nat:=r :: (Fs++Fx)
namespace ReplicaIs
variable {w w':World} {base r s d x:Nat} {Fs Fx l:List Nat} {B:Nat} {R:RS}
theorem keep (h:ReplicaIs w base r s d x Fs Fx B R) (a:Keep l w w') (b:Apart (YJ r Fs Fx) l):ReplicaIs w' base r s d x Fs Fx B R:=
 ⟨h.blk.keep a (b r (by simp[YJ])),h.st.keep a (fun y c=>b y (by simp[YJ,c])),h.win.keep a (fun y c=>b y (by simp[YJ,c])),h.ap,h.rs,h.rx,h.rb,h.mode,h.view⟩
theorem kO (h:ReplicaIs w base r s d x Fs Fx B R) (a:kz w w'):ReplicaIs w' base r s d x Fs Fx B R:=h.keep a Apart.nil_right
theorem lt (h:ReplicaIs w base r s d x Fs Fx B R):∀ y∈YJ r Fs Fx,y<w.heap.size:=fun y a=>by
 simp only[YJ,AL,AD] at a;rcases a with rfl | a | a
 . exact h.blk.lt
 . exact h.st.lt y a
 exact h.win.lt y a
theorem ge (h:ReplicaIs w base r s d x Fs Fx B R):∀ y∈YJ r Fs Fx,base<=y:=fun y a=>by
 simp only[YJ,AL,AD] at a;rcases a with rfl | a | a
 . exact h.rb
 . exact h.st.ge y a
 exact h.win.ge y a
theorem cells (h:ReplicaIs w base r s d x Fs Fx B R):cl w r (pq s)/\cl w (aq r 1) (pq x):=⟨uq (h.blk.cell 0),uq (h.blk.cell 1)⟩
theorem setSt (h:ReplicaIs w base r s d x Fs Fx B R) {a:List Nat} {S':PS} (e:StoreAt w' base s d a B S') (b:Keep Fs w w') (c:Grow w Fs a) (f:S'.st.mode=1) (g:S'.st.view=R.S.st.view):ReplicaIs w' base r s d x a Fx B ⟨S',R.next,R.sl⟩:=
 ⟨h.blk.keep b h.rs,e,h.win.keep b h.ap.symm,h.ap.grow c h.win.lt,fun i=>(c r i).elim h.rs (by have:=h.blk.lt;omega),h.rx,h.rb,f,g ▸ h.view⟩
theorem setWin (h:ReplicaIs w base r s d x Fs Fx B R) {a:List Nat} {sl:List PSlot} (g:WinAt w' base x a n sl) (c:Keep Fx w w') (e:∀ y∈a,y∈Fx\/(y∉Fs/\y≠r)):ReplicaIs w' base r s d x Fs a B ⟨R.S,n,sl⟩:=
 ⟨h.blk.keep c h.rx,h.st.keep c h.ap,g,fun y f i=>(e y i).elim (h.ap y f) (fun b=>b.1 f),h.rs,fun j=>(e r j).elim h.rx (fun b=>b.2 rfl),h.rb,h.mode,h.view⟩
end ReplicaIs
theorem JP {w:World} {base s d:Nat} {F:List Nat} {B:Nat} (h:StoreAt w base s d F B S):cr 22 #[pq s] w (.agg #[ii S.st.mode,ii S.st.view,ii S.st.epoch,ii S.st.seq,ii S.st.done,ii S.st.mount,ii S.st.gen,(YB S.us:Nat),(YBL S:Nat),(ZM S.I.ol:Nat)]):=by
 obtain⟨g,t,p,m,Fd,Ft,Fw,Fm,a,b,h,rfl⟩:=h;exact JAm h
section
variable (w:World) (base r s d x:Nat) (Fs Fx:List Nat) (B:Nat) (R:RS) (h:ReplicaIs w base r s d x Fs Fx B R)
include h
theorem Vo (i:R.S.st.seq<=2147483647) (j:R.S.st.epoch<=2147483647) (l:R.S.st.done<=R.S.st.seq) :
 Calls prog 155 #[pq r] w fun e w'=>∃ u,e=.returned (.tuple #[u,zz])/\w'.ownsRow w.heap.size 5 1 u 25 (bys (YG 8 R.S.st.view R.S.st.seq 0 0 R.S.st.epoch R.S.st.done []))/\kz w w':=by
 have f:=JP h.st;have a:=fun W=>YAC (k:=8) (v:=R.S.st.view) (s:=R.S.st.seq) (b:=0) (c:=0) (e:=R.S.st.epoch) (d:=R.S.st.done) (A:=none) (n:=0) 0 (xs:=[]) (w:=W) (Rd.nil _ _) ⟨by have:=h.view;omega,.inr (.inr (.inr (.inl ⟨rfl,Z,rfl,rfl,Z,Z,rfl⟩)))⟩;obtain⟨p,q⟩:=h.cells;unfold frv at a;generalize R.S.st=st at *;obtain⟨mode,view,t,y,z,B,C⟩:=st;simp only at f a i j l ⊢;go_enter func155,ntmps155
 go_wp2_with (first
  | (go_at_call 22;refine f.mono ?_;clear f;rintro e w1 ⟨rfl,g⟩)
  | (go_at_call 260;refine(a _).mono ?_;clear a;rintro e D ⟨u,rfl,m,o⟩))
 go_ret2;exact⟨u,rfl,VC m (by have:=g.size;simp;omega),(g.alloc _).tO o⟩
theorem readyR_ok:cr 149 #[pq r] w zz:=by
 have l:=JP h.st;have n:=h.mode
 have o:cq 91 #[pq s] w (pq d):=by
  obtain⟨g,t,p,m,Fd,Ft,Fw,Fm,q,u,k,y⟩:=h.st;exact DiskS_is w base s d g t p m Fd Ft Fw Fm q u B R.S k
 have v:cq 134 #[pq d] w (.bool false):=by
  obtain⟨g,t,p,m,Fd,Ft,Fw,Fm,q,u,k,y⟩:=h.st;have:=YAD w base d Fd R.S.D k.log.disk
  rwa [k.log.off] at this
 obtain⟨C,D⟩:=h.cells;rw[n] at l;clear n;have E:=fun(a b c e f g z i j:Value) W=>KE (P:=prog) underlying58 0 rfl isAgg3 #[ii 1,a,b,c,e,f,g,z,i,j] rfl W;go_enter func149,ntmps149
 go_wp2_with (first
  | (go_at_call 91;refine o.mono ?_;clear o;rintro e w' ⟨rfl,rfl⟩)
  | (go_at_call 134;refine v.mono ?_;clear v;rintro e w' ⟨rfl,rfl⟩)
  | (go_at_call 22;refine l.mono ?_;clear l;rintro e w1 ⟨rfl,A⟩))
 go_ret;exact⟨rfl,A⟩
end
theorem JAj (w:World):cq 149 #[.pointer none] w (ii 3):=by
 go_enter func149,ntmps149
 go_wp2
 go_ret;exact⟨rfl,rfl⟩
section
variable (w:World) (base r s d x:Nat) (Fs Fx:List Nat) (B:Nat) (R:RS) (h:ReplicaIs w base r s d x Fs Fx B R)
include h
theorem ImageAt_st:∃ m,(∀ W,kz w W->cq 71 #[pq s] W (pq m))/\(∀ W,kz w W->cq 242 #[pq m] W B)/\B<=64:=by
 obtain⟨g,t,p,m,Fd,Ft,Fw,Fm,c,e,a,f⟩:=h.st;exact⟨m,fun W b=>ImageS_is W base s d g t p m Fd Ft Fw Fm c e B R.S (a.kO b),fun W b=>BlocksS_is W base s d g t p m Fd Ft Fw Fm c e B R.S (a.kO b),a.log.geom.few⟩
theorem Xd (k v q b c e o:Nat) (D:Value) (C:k=1\/k=2) (p:b+max c 1<=B) (A:Option Addr) (n m:Nat) (E:D=.slice A n m):cr 150 #[pq r,.agg #[ii k,ii v,ii q,ii b,ii c,ii e,ii o,D]] w (.bool false):=by
 subst E;obtain⟨G,t,u,H⟩:=ImageAt_st w base r s d x Fs Fx B R h;obtain⟨I,J⟩:=h.cells;have L:=h.blk.lt;obtain⟨l,y⟩:∃ l:Nat,max ((c:Nat):Int) 1=(l:Nat)/\b+l<=B:=⟨max c 1,Z,p⟩;obtain⟨y,M⟩:=y;have a:kz w (w.alloc (.cells #[ii k,ii v,ii q,ii b,ii c,ii e,ii o,.slice A n m] 211)):=kq.alloc _;have F:=Blk.new w 211 #[ii k,ii v,ii q,ii b,ii c,ii e,ii o,.slice A n m];have g:=(h.kO a).cells.1;clear h p;go_enter func150,ntmps150;go_wp2_with fail;obtain⟨i,N,O,j,P,Q,S,T⟩:=KB F;have z:((b:Nat):Int)+(l:Nat)<=(B:Nat):=Z
 rcases C with rfl | rfl
 . refine ZT (fun w'=>cl w' w.heap.size (ii ((1:Nat):Int))/\cl w' (aq w.heap.size 3) b/\cl w' r (pq s)) 23 [[0,1,2,3,4,5,6,7,8,9,10,11,12,13,14,15,16,17,18,19,20],[21],[22]] ⟨i,j,g⟩ ?_
   simp only[PI];iterate 8 refine wG ?_
   iterate 3 (refine Xm rq ?_;simp only[Act.put,PU])
   iterate 10 refine wG ?_
   refine JB rq fun K f=>?_;go_wp2_with (refine(t _ a.drew).mono ?_;rintro e w' ⟨rfl,rfl⟩);refine f _ _ (⟨i,j,g⟩) ?_
   try simp only[Act.put,PU]
   refine JB rq fun K f=>?_;go_wp2_with (refine(u _ a.drew).mono ?_;rintro e w' ⟨rfl,rfl⟩);refine f _ _ (⟨i,j,g⟩) ?_
   try simp only[Act.put,PU]
   refine VB ?_;go_wp2_with fail;go_ret;exact⟨uq z,a.drew⟩
 refine ZT (fun w'=>cl w' w.heap.size (ii ((2:Nat):Int))/\cl w' (aq w.heap.size 3) b/\cl w' r (pq s)) 23 [[0,1,2,3,4,5,6,7,8,9,10,11,12,13,14,15,16,17,18,19,20],[21],[22]] ⟨i,j,g⟩ ?_
 simp only[PI];iterate 21 refine wG ?_
 refine JB rq fun K f=>?_;go_wp2_with (refine(t _ a.drew).mono ?_;rintro e w' ⟨rfl,rfl⟩);refine f _ _ (⟨i,j,g⟩) ?_
 try simp only[Act.put,PU]
 refine JB rq fun K f=>?_;go_wp2_with (refine(u _ a.drew).mono ?_;rintro e w' ⟨rfl,rfl⟩);refine f _ _ (⟨i,j,g⟩) ?_
 try simp only[Act.put,PU]
 refine VB ?_;go_wp2_with fail;go_ret;exact⟨uq z,a.drew⟩
omit h in
theorem Qh (v q b c e dn:Nat) (A:Option Addr) (n m:Nat):cr 150 #[pq r,.agg #[ii 3,ii v,ii q,ii b,ii c,ii e,ii dn,.slice A n m]] w (.bool false):=by
 have hkA:kz w (w.alloc (.cells #[ii 3,ii v,ii q,ii b,ii c,ii e,ii dn,.slice A n m] 211)):=kq.alloc _;have hbF:=Blk.new w 211 #[ii 3,ii v,ii q,ii b,ii c,ii e,ii dn,.slice A n m];obtain⟨mx,hmx⟩:∃ mx:Int,max ((c:Nat):Int) 1=mx:=⟨_,rfl⟩;go_enter func150,ntmps150;go_wp2_with fail;obtain⟨f0,f1,f2,f3,f4,f5,f6,f7⟩:=KB hbF;refine ZT (fun w'=>cl w' w.heap.size (ii 3)) 23 [[0,1,2,3,4,5,6,7,8,9,10,11,12,13,14,15,16,17,18,19,20],[21],[22]] f0 ?_;simp only[PI];iterate 13 refine wG ?_
 iterate 8 (refine Xm rq ?_;simp only[Act.put,PU])
 refine YX rq f0 ?_;simp only[Act.put,PU];refine YX rq f0 ?_;simp only[Act.put,PU];refine VB ?_;go_wp2_with fail;go_ret;exact⟨rfl,hkA.drew⟩
theorem YBQ (k j:Nat) (G:Good B R.S k j) (H:k<=50) (I:j<=100000) (o:POp) (U:KS B o) (J:o.k=3->o.e=R.S.st.epoch+1) (A:Option Addr) (i c:Nat) (K:Rd w A i (bys o.d)) (V:∀ y,A=some y->y.block∉Fs) :
 Calls prog 267 #[pq r,.agg #[ii o.k,ii o.b,ii o.c,ii o.e,.slice A i c]] w fun e w'=>e=.returned zz/\∃ O S',StoreAt w' base s d O B S'/\Does B R.S o S'/\Keep Fs w w'/\Grow w Fs O:=by
 obtain⟨P,l,E,F,od⟩:=o;simp only at J K ⊢;have a1:od.length=i:=uq K.1
 have a:kz w (w.alloc (.cells #[ii P,ii l,ii E,ii F,.slice A i c] 95)):=kq.alloc _;have W:=Blk.new w 95 #[ii P,ii l,ii E,ii F,.slice A i c];have m:=h.st.kO a.drew;have L:=h.mode;have M:=(h.kO a).cells.1;obtain⟨o0,Q,X,Y,o4⟩:=ZE W;rcases U with⟨f,p,q,N⟩ | ⟨f,p,q,N⟩ | ⟨f,p,q⟩
 . simp only at f p q N
   subst f;obtain⟨b,rfl⟩:∃ b:Nat,l=b:=⟨l.toNat,Z⟩;obtain rfl:i=64:=Z
   have g:=ZBB m G H I L b Z c od (K.keep a.drew) V;clear h m;go_enter func267,ntmps267;go_wp2_with fail;refine ZT (fun w'=>cl w' r (pq s)/\cl w' (aq w.heap.size 1) b/\cl w' (aq w.heap.size 4) (.slice A 64 c)) 8 [[0,1,2,3,4,5,6,7]] ⟨M,Q,o4⟩ ?_;simp only[PI];iterate 8 refine wG ?_
   refine VB ?_;go_wp2_with (refine g.mono ?_;clear g;rintro e S ⟨rfl,t,S',u,v,z,C⟩);go_ret;exact⟨rfl,t,S',u,.inl ⟨rfl,uq v⟩,a.drew.zero.trans z (fun x D=>.inl D),C.keep a.drew⟩
 . simp only at f p q N
   subst f;obtain⟨b,rfl⟩:∃ b:Nat,l=b:=⟨l.toNat,Z⟩;obtain⟨n,rfl⟩:∃ n:Nat,E=n:=⟨E.toNat,Z⟩;have g:=XBJ m G H I L b n Z Z;clear h m;go_enter func267,ntmps267;go_wp2_with fail;refine ZT (fun w'=>cl w' r (pq s)/\cl w' (aq w.heap.size 1) b/\cl w' (aq w.heap.size 2) n) 8 [[0,1,2,3,4,5,6,7]] ⟨M,Q,X⟩ ?_;simp only[PI];iterate 8 refine wG ?_
   refine VB ?_;go_wp2_with (refine g.mono ?_;clear g;rintro e S ⟨rfl,t,S',u,v,z,C⟩);go_ret;exact⟨rfl,t,S',u,.inr (.inl ⟨rfl,uq v⟩),a.drew.zero.trans z (fun x D=>.inl D),C.keep a.drew⟩
 simp only at f p q
 subst f;have T:=J rfl;obtain⟨e,rfl⟩:∃ e:Nat,F=e:=⟨F.toNat,Z⟩;have g:=QBM m G H I L e Z;have a0:=ZB T;clear h m J T;go_enter func267,ntmps267;go_wp2_with fail;refine ZT (fun w'=>cl w' r (pq s)/\cl w' (aq w.heap.size 3) (e:Nat)) 6 [[0,1,2,3,4,5]] ⟨M,Y⟩ ?_;simp only[PI];iterate 6 refine wG ?_
 refine VB ?_;go_wp2_with (refine g.mono ?_;clear g;rintro e S ⟨rfl,t,S',u,v,z,C⟩);go_ret;exact⟨rfl,t,S',u,.inr (.inr ⟨rfl,ZA a0,uq v⟩),a.drew.zero.trans z (fun x D=>.inl D),C.keep a.drew⟩
theorem QAy (o:POp) (g:o.k=3) (m:KS B o) (i:o.e≠R.S.st.epoch+1) (n:R.S.st.epoch<=1000000000) (A:Option Addr) (d c:Nat) :
 cr 267 #[pq r,.agg #[ii o.k,ii o.b,ii o.c,ii o.e,.slice A d c]] w (ii 1):=by
 obtain⟨u,j,k,b,od⟩:=o;simp only at i g ⊢;subst g;have f:kz w (w.alloc (.cells #[ii 3,ii j,ii k,ii b,.slice A d c] 95)):=kq.alloc _;have p:=Blk.new w 95 #[ii 3,ii j,ii k,ii b,.slice A d c];have q:=(h.kO f).cells.1;obtain⟨v,y,z,t,C⟩:=ZE p
 obtain⟨e,rfl⟩:∃ e:Nat,b=e:=by
  rcases m with⟨a,_⟩ | ⟨a,_⟩ | ⟨_,a,_⟩
  . simp at a
  . simp at a
  exact⟨b.toNat,by simp only at a;omega⟩
 have l:=XAo (h.st.kO f.drew) h.mode e Z n;clear h i;go_enter func267,ntmps267;go_wp2_with fail;refine ZT (fun w'=>cl w' r (pq s)/\cl w' (aq w.heap.size 3) (e:Nat)) 6 [[0,1,2,3,4,5]] ⟨q,t⟩ ?_;simp only[PI];iterate 6 refine wG ?_
 refine VB ?_;go_wp2_with (refine l.mono ?_;clear l;rintro e D ⟨rfl,rfl⟩);go_ret;exact⟨rfl,f.drew⟩
end
theorem ZAA (st:PSt) (o:POp):(Ji st o).mode=st.mode/\(Ji st o).view=st.view/\(Ji st o).seq=st.seq+1:=by
 unfold Ji
 split <;> simp
def QBU (w:World) (base r s d x:Nat) (Fs Fx:List Nat) (B:Nat) (R:RS) (k j:Nat) (e:Ending) (w':World):Prop:=
 ∃ Fs' Fx' R' er,ReplicaIs w' base r s d x Fs' Fx' B R'/\Ran B R R' er/\Good B R'.S (k+QF R.sl) (j+2*QF R.sl)/\(∀ q∈R'.sl,q.is=true->KS B q.o)/\Keep (YJ r Fs Fx) w w'/\Grow w (YJ r Fs Fx) (YJ r Fs' Fx') /\
   ((er=0/\∃ u,e=.returned (.tuple #[u,zz])/\w'.ownsRow w.heap.size 5 1 u 25 (bys (YG 8 R'.S.st.view R'.S.st.seq 0 0 R'.S.st.epoch R'.S.st.done [])))\/(er=1/\e=.returned (.tuple #[zn,ii 1])))
structure OnInv (w:World) (base r s d x:Nat) (Fs Fx:List Nat) (B:Nat) (R:RS) (k j:Nat) (Fs1 Fx1:List Nat) (R1:RS) (k1 j1 bo:Nat) (A:Option Addr) (c:Nat) (wr:World):Prop where
 rep:ReplicaIs wr base r s d x Fs1 Fx1 B R1
 ran:∀ R' e,Ran B R1 R' e->Ran B R R' e
 good:Good B R1.S k1 j1
 kb:k1+QF R1.sl<=k+QF R.sl
 jb:j1+2*QF R1.sl<=j+2*QF R.sl
 nb:R1.next+QF R1.sl=R.next+QF R.sl
 ops:∀ q∈R1.sl,q.is=true->KS B q.o
 keep:Keep (YJ r Fs Fx) w wr
 grow:Grow w (YJ r Fs Fx) (YJ r Fs1 Fx1)
 blk:Blk wr bo 95 #[ii R1.cur.o.k,ii R1.cur.o.b,ii R1.cur.o.c,ii R1.cur.o.e,.slice A R1.cur.o.d.length c]
 val:R1.cur.v=.slice A R1.cur.o.d.length c
 bnew:bo∉YJ r Fs1 Fx1
 bge:w.heap.size<=bo
theorem RS.cur_get (R:RS) (h:1<=R.sl.length):∃ hi:R.next % R.sl.length<R.sl.length,R.cur=R.sl[R.next % R.sl.length]:=by
 have hi:R.next % R.sl.length<R.sl.length:=Bk _ h;exact⟨hi,by unfold RS.cur;rw[AA,AC hi];rfl⟩
def KAa (x:Nat) (w:World):Nat:=match w.cell? (aq x 1) with | some (.int _ n)=>n.toNat | _=>0
theorem Jh {w:World} {base x:Nat} {L:Value} {F:List Nat} {sl:List PSlot} (h:WinIs w base x L F n sl):KAa x w=n:=by
 unfold KAa;rw[h.cells.2];simp
theorem KBj {w:World} {base r s d x:Nat} {Fs Fx:List Nat} {B:Nat} {R:RS} (h:ReplicaIs w base r s d x Fs Fx B R) {j:Nat} (hg:Good B R.S k j) (hk:k+QF R.sl<=50) (hj:j<=10000) (hn:R.next<=1000000) (b4:∀ q∈R.sl,q.is=true->KS B q.o) :
 Calls prog 154 #[pq r] w (QBU w base r s d x Fs Fx B R k j):=by
 have bo:QF R.sl<=16:=by
  obtain⟨L,hw⟩:=h.win;exact AB (YAe _) hw.few
 have ak:Calls prog 266 #[pq x] w fun e w'=>∃ q,R.cur=q/\e=.returned (.tuple #[.agg #[.int .i64 q.o.k,.int .i64 q.o.b,.int .i64 q.o.c,.int .i64 q.o.e,q.v],.bool q.is])/\(∃ A c,q.v=.slice A q.o.d.length c)/\kz w w':=by
  obtain⟨L,hw⟩:=h.win;exact PeekW_is w base x L Fx R.next R.sl hw
 obtain⟨al,a2⟩:=h.cells;go_enter func154,ntmps154
 go_wp2_with (
  (refine ak.mono ?_)
  clear ak;rintro e w1 ⟨q,J,rfl,⟨A,c,a8⟩,a3⟩;rw[a8])
 have a9:kz w (w1.alloc (.cells #[.int .i64 q.o.k,.int .i64 q.o.b,.int .i64 q.o.c,.int .i64 q.o.e,.slice A q.o.d.length c] 95)):=a3.alloc _
 have h0:OnInv w base r s d x Fs Fx B R k j Fs Fx R k j w1.heap.size A c (w1.alloc (.cells #[.int .i64 q.o.k,.int .i64 q.o.b,.int .i64 q.o.c,.int .i64 q.o.e,.slice A q.o.d.length c] 95)):=by
  subst J;exact⟨h.kO a9,fun _ _ h=>h,hg,AG _,AG _,rfl,b4,a9.zero,Grow.refl _ _,Blk.new _ _ _,a8,fun m=>by have:=h.lt _ m;have:=a3.size;omega,a3.size⟩
 have t:R.cur.is=q.is:=by rw[J]
 go_loopw [4,5,6] (fun a b _ wr=>∃ n o f T U V v a2,a=.pointer (some (aq V 0))/\b=.bool f.cur.is/\OnInv w base r s d x Fs Fx B R k j n o f T U V v a2 wr) (fun _ _ _ wr=>R.next+QF R.sl-KAa x wr)
 case atStart=>exact⟨Fs,Fx,R,k,j,w1.heap.size,A,c,rfl,by rw[t],h0⟩
 clear h0 a9 al a2 a8 t a3 J;obtain⟨n,o,f,T,U,V,v,cc,rfl,rfl,g⟩:=hrel;obtain⟨al,a2⟩:=g.rep.cells;obtain⟨o0,o1,o2,o3,o4⟩:=ZE g.blk;have C:=g.good;have bp:=C.seq;have bq:=C.epoch;have b5:=C.done;have br:=g.kb;have bs:=g.jb;have bt:=g.nb;obtain⟨q,K⟩:∃ q,f.cur=q:=⟨_,rfl⟩;have a4:=g.val;have aa:=g.blk;rw[K] at o0 o1 o2 o3 o4 a4 aa ⊢;have ab:=ZB K;by_cases M:q.is=true
 . obtain⟨W,N⟩:=g.rep.win
   obtain⟨hi,ac⟩:=f.cur_get N.pos;have a5:q∈f.sl:=by rw[<- K,ac];exact AN _
   have ho:=g.ops _ a5 M;have am:=N.dat _ a5;have b6:∀ y,v=some y->y.block∉n:=fun y i m=>g.rep.ap _ m (N.inQ a5 _ (by rw[a4,i];simp[Value.ownBlock]));have a6:=Yu hi (by rw[<- ac,K];exact M);have b7:V∉n:=fun m=>g.bnew (by simp[YJ,m]);have b8:V∉o:=fun m=>g.bnew (by simp[YJ,m]);have J:(f.sl.getD (f.next % f.sl.length) PSlot.none_).is=true:=by show f.cur.is=true;rw[K];exact M
   clear K ac a5;obtain⟨qv,⟨O,X,Y,D,od⟩,qi⟩:=q;simp only at o0 o1 o2 o3 o4 a4 aa M am ⊢;subst M;subst a4;have a7:=g.rep;by_cases P:O=3/\D≠f.S.st.epoch+1
   . have E:=QAy wr base r s d x n o B f g.rep ⟨O,X,Y,D,od⟩ P.1 ho P.2 Z v od.length cc
     have b9:=ZB P;have ad:=ZB g;clear P g;simp only at E
     go_wp2_with (first
      | (go_at_call 267
         refine E.mono ?_;clear E;rintro e w2 ⟨rfl,l⟩;have an:=YBC w2 base x W o f.next f.sl (N.kO l) J
         obtain⟨d0,d1⟩:=(a7.kO l).cells)
      | (go_at_call 268
         refine an.mono ?_;clear an;rintro e F ⟨rfl,a0,Q,G,a1⟩))
     go_ret2;have g:=ZA ad;obtain⟨ba,ae⟩:=ZA b9;have S:=ZA ab;have H:=(g.rep.kO l).setWin ⟨W,Q⟩ G (fun y i=>.inl (a1 y i));refine⟨n,a0,⟨f.S,f.next,f.cut⟩,1,H,g.ran _ _ (Ran.bad (by rw[S]) (by rw[S];exact ba) (by rw[S];exact ae)),C.mono Z Z,?_,?_,?_,.inr ⟨rfl,rfl⟩⟩
     . intro q I t
       rcases AS I with I | rfl
       . exact g.ops q I t
       cases t
     . exact(g.keep.tO l).trans G (fun y i=>g.grow y (by simp[YJ,i]))
     intro y i
     apply g.grow y;simp only[YJ,AL,AD] at i ⊢;rcases i with i | i | i
     . exact .inl i
     . exact .inr (.inl i)
     exact .inr (.inr (a1 y i))
   have E:=YBQ wr base r s d x n o B f g.rep T U C Z Z ⟨O,X,Y,D,od⟩ ho (fun Q=>by by_cases he:D=f.S.st.epoch+1;exact he;exact absurd ⟨Q,he⟩ P) v od.length cc (Rd.of_own am) b6
   have ad:=ZB g;clear P g;simp only at E
   go_wp2_with (first
    | (go_at_call 267
       refine E.mono ?_;clear E;rintro e w2 ⟨rfl,ao,ap,bb,ar,l,au⟩;obtain⟨bc,av⟩:=ar.good ho C Z Z;obtain⟨bd,bf,_⟩:=ZAA f.S.st ⟨O,X,Y,D,od⟩;have aw:=a7.setSt bb l au (by rw[av,bd];exact a7.mode) (by rw[av,bf]);have bg:=N.keep l a7.ap.symm;have ax:=KAo w2 base x W o f.next f.sl bg J Z;have ae:=aa.keep l b7
       obtain⟨d0,d1⟩:=aw.cells)
    | (go_at_call 269
       refine ax.mono ?_;clear ax;rintro e F ⟨_,_,rfl,a0,Q,G,a1⟩;have H:=aw.setWin ⟨W,Q⟩ G (fun y i=>.inl (a1 y i));have ay:=ae.keep G b8;have bu:=ay.lt;obtain⟨o0,o1,o2,o3,o4⟩:=ZE ay;obtain⟨d0,d1⟩:=H.cells;have bv:=H.blk.lt;have af:kz F (F.alloc (.cells #[ii O,ii X,ii Y,ii D,.slice v od.length cc] 95)):=kq.alloc _;have az:=PeekW_is _ base x W a0 (f.next+1) (f.sl.set (f.next % f.sl.length) PSlot.none_) (Q.kO af)
       have p:=Blk.new F 95 #[ii O,ii X,ii Y,ii D,.slice v od.length cc])
    | (go_at_call 266
       refine az.mono ?_;clear az;rintro e w4 ⟨q,bh,rfl,⟨ag,c4,b0⟩,ah⟩;rw[b0];replace p:=p.kO ah;obtain⟨z0,z1,z2,z3,z4⟩:=ZE p;have f0:=p.frozen 0;have f1:=p.frozen 1;have f2:=p.frozen 2;have f3:=p.frozen 3;have f4:=p.frozen 4))
   have h5:=p.put5 (.int .i64 q.o.k) (.int .i64 q.o.b) (.int .i64 q.o.c) (.int .i64 q.o.e) (.slice ag q.o.d.length c4);have ai:=Keep.put5 w4 F.heap.size (.int .i64 q.o.k) (.int .i64 q.o.b) (.int .i64 q.o.c) (.int .i64 q.o.e) (.slice ag q.o.d.length c4);unfold put5 at h5 ai;have aj:(⟨ap,f.next+1,f.cut⟩:RS).cur=q:=bh
   have bi:Apart (YJ r ao a0) [F.heap.size]:=fun y i m=>by
    simp at m;have:=H.lt y i;omega
   have b1:=(H.kO (af.tO ah)).keep ai bi;have g:=ZA ad;have S:=ZA ab;have bw:=l.size;have bx:=G.size;have bz:=g.keep.size;have bj:=Jh N;go_roundw
   case rel=>
    refine⟨ao,a0,⟨ap,f.next+1,f.cut⟩,T+1,U+2,F.heap.size,ag,c4,rfl,by rw[aj],⟨b1,fun bk e h=>g.ran bk e (Ran.step (by rw[S]) (by rw[S];exact ar) h),bc,?_,?_,?_,?_,?_,?_,?_,?_,?_,?_⟩⟩
    . show T+1+QF f.cut<=_
      have:QF f.cut+1=QF f.sl:=a6;omega
    . show U+2+2*QF f.cut<=_
      have:QF f.cut+1=QF f.sl:=a6;omega
    . show f.next+1+QF f.cut=_
      have:QF f.cut+1=QF f.sl:=a6;omega
    . intro bl I t
      rcases AS I with I | rfl
      . exact g.ops bl I t
      cases t
    . refine(((g.keep.trans l (fun y i=>g.grow y (by simp[YJ,i]))).trans G (fun y i=>g.grow y (by simp[YJ,i]))).tO (af.tO ah)).trans ai (fun y i=>.inr ?_)
      simp at i;omega
    . intro y i
      simp only[YJ,AL,AD] at i;rcases i with i | i | i
      . exact g.grow y (by simp[YJ,i])
      . rcases au y i with i | i
        . exact g.grow y (by simp[YJ,i])
        exact .inr Z
      exact g.grow y (by simp[YJ,a1 y i])
    . rw[aj];exact h5
    . rw[aj];exact b0
    . exact fun m=>by have:=H.lt _ m;omega
    omega
   case measure=>
    obtain⟨c2,bm⟩:=b1.win;have bn:=Jh bm;have:QF f.cut+1=QF f.sl:=a6;simp only[bj];refine Nat.lt_of_le_of_lt (Ar (congrArg (fun z=>R.next+QF R.sl-z) bn)) ?_;show R.next+QF R.sl-(f.next+1)<R.next+QF R.sl-f.next;omega
 have b2:q.is=false:=uq M
 rw[b2];have b3:=Vo wr base r s d x n o B f g.rep Z Z b5;go_wp2_with (refine b3.mono ?_;clear b3;rintro e w2 ⟨u,rfl,hu,l⟩);go_ret2;exact⟨n,o,f,0,g.rep.kO l,g.ran _ _ (Ran.stop (by rw[ZA ab];exact b2)),C.mono Z Z,g.ops,g.keep.tO l,g.grow,.inl ⟨rfl,u,rfl,VC hu g.keep.size⟩⟩
/- Lemmas of the proof, with their conditions. -/
import Derived.Test.YtfedaknhecbehaaGreatL30
namespace Go.Proofs.YtfedaknhecbehaaGreat
open Tryz Go.RowKit Go.Shelf
variable {g t n:Nat} {cs:Array Value} {pre:List PRnd} {W:World} {Ft Fm:List Nat}
set_option linter.all false
set_option maxHeartbeats 8000000
set_option maxRecDepth 100000
section
open Go.RowKit Go.Shelf
attribute [local go_sem] AZ
def KBp (S:PS):Nat:=(JW S.I.bl S.I.ol S.I.bl.length).length
def XBr (S:PS):List Value:=[.int .i64 S.st.mode,.int .i64 S.st.view,.int .i64 S.st.epoch,.int .i64 S.st.seq,.int .i64 S.st.done,.int .i64 S.st.mount,.int .i64 S.st.gen,.int .i64 (YD S.us:Nat),.int .i64 (KBp S:Nat),.int .i64 (KN S.I.ol:Nat)]
theorem XAN (a ol:List Int) (k:Nat):(JW a ol k).length<=2*k:=by
 induction k with
 | zero=>simp[JW]
 | succ k ih=>
   rw[JW,AE,AE]
   split <;> split <;> simp <;> omega
theorem Xo {w:World} {t:TypeId} {a b c d e f i j k l:Value} (h:Blk w g t #[a,b,c,d,e,f,i,j,k,l]) :
 cl w g a/\cl w (aq g 1) b/\cl w (aq g 2) c/\cl w (aq g 3) d/\cl w (aq g 4) e/\cl w (aq g 5) f/\cl w (aq g 6) i/\cl w (aq g 7) j/\cl w (aq g 8) k/\cl w (aq g 9) l:=
 ⟨uq (h.cell 0),uq (h.cell 1),uq (h.cell 2),uq (h.cell 3),uq (h.cell 4),uq (h.cell 5),uq (h.cell 6),uq (h.cell 7),uq (h.cell 8),uq (h.cell 9)⟩
def wrN (n:Nat):Int:=IntKind.i64.wrap (n:Nat)
theorem YBN (n:Nat):IntKind.i64.wrap (wrN n+1)=wrN (n+1):=by
 unfold wrN;simp only[AK];omega
theorem JBC (n:Nat) (h:n<=1000000):wrN n=(n:Nat):=by
 unfold wrN;rw[AK];omega
structure KSta (w:World) (cs:Array Value) (pre:List PRnd) (W:World):Prop where
 cnt:Blk W (w.heap.size+1) 58 (cs.setIfInBounds 8 (.int .i64 (wrN pre.length)))
 res:Blk W w.heap.size 58 #[zz,zz,zz,zz,zz,zz,zz,zz,zz,zz]
 keep:kz w W
theorem KSta.kept {w A B:World} (h:KSta w cs pre A) (a:kz A B):KSta w cs pre B:=⟨h.cnt.kO a,h.res.kO a,h.keep.tO a⟩
theorem KSta.turned {w:World} {k:Nat} {o a:Obj} (h:KSta w cs pre W) (c:w.heap.size<=k) (b:W.heap[k]? = some o) (ho:o.isCells=false):KSta w cs pre (W.putObj k a):=
 ⟨YF a h.cnt b ho,YF a h.res b ho,h.keep.putObj c a⟩
theorem JAh {w:World} {base m:Nat} (s d p:Nat) (L0 L1:Value) (S:PS) (hblk:Blk w s 146 #[.pointer (some d),.pointer (some (aq g 0)),.pointer (some t),.pointer (some m),.pointer (some p),
 .int .i64 S.st.mode,.int .i64 S.st.view,.int .i64 S.st.epoch,.int .i64 S.st.seq,.int .i64 S.st.done,.int .i64 S.st.mount,.int .i64 S.st.gen,.int .i64 0,.int .i64 0,.int .i64 0,.int .i64 S.slot,L0,L1])
 (htab:TableAt w base t g Ft S.us S.lv) (hI:ImageAt w base m Fm S.I) :
 cr 22 #[.pointer (some (aq s 0))] w (.agg (XBr S).toArray):=by
 have hFr:=fun W (hk:kz w W)=>Qw (htab.kO hk);have hPe:=fun W (hk:kz w W)=>XAi (hI.kO hk);unfold XBr;generalize hfc:YD S.us=fc at *;generalize hpc:KN S.I.ol=pc at *;obtain⟨D,us,lv,W,I,⟨mode,view,epoch,seq,done,mount,gen⟩,slot,lie0,lie1⟩:=S;simp only at *;refine(callsIn_wide (n:=3)).1 ?_;refine callsIn_of_wp_marks func22 rfl trivial ?_ rfl;simp only[ntmps22,PL,Nat.reduceAdd,Nat.reduceSub];obtain⟨w2,hw2⟩:=ex ((w.alloc (.cells #[.int .i64 0,.int .i64 0,.int .i64 0,.int .i64 0,.int .i64 0,.int .i64 0,.int .i64 0,.int .i64 0,.int .i64 0,.int .i64 0] 58)).alloc (.cells #[.int .i64 mode,.int .i64 view,.int .i64 epoch,.int .i64 seq,.int .i64 done,.int .i64 mount,.int .i64 gen,.int .i64 0,.int .i64 0,.int .i64 0] 58));have k2:kz w w2:=by rw[hw2];exact(kq.alloc _).alloc _
 have s2:w2.heap.size=w.heap.size+2:=by rw[hw2];simp
 have b2:Blk w2 w.heap.size 58 #[.int .i64 0,.int .i64 0,.int .i64 0,.int .i64 0,.int .i64 0,.int .i64 0,.int .i64 0,.int .i64 0,.int .i64 0,.int .i64 0]:=by rw[hw2];exact(Blk.new w _ _).kO (kq.alloc _)
 have b3:Blk w2 (w.heap.size+1) 58 #[.int .i64 mode,.int .i64 view,.int .i64 epoch,.int .i64 seq,.int .i64 done,.int .i64 mount,.int .i64 gen,.int .i64 0,.int .i64 0,.int .i64 0]:=by
  rw[hw2];have:=Blk.new (w.alloc (.cells #[.int .i64 0,.int .i64 0,.int .i64 0,.int .i64 0,.int .i64 0,.int .i64 0,.int .i64 0,.int .i64 0,.int .i64 0,.int .i64 0] 58)) 58 #[.int .i64 mode,.int .i64 view,.int .i64 epoch,.int .i64 seq,.int .i64 done,.int .i64 mount,.int .i64 gen,.int .i64 0,.int .i64 0,.int .i64 0];rw[show ∀ o,(w.alloc o).heap.size=w.heap.size+1 from fun o=>sq] at this;exact this
 obtain⟨c0,c1,c2,c3,c4,c5,c6,c7,c8,c9,c10,c11,c12,c13,c14,c15,c16,c17⟩:=KC hblk;have hslt:=hblk.lt
 gi_wp2
 rw[<- hw2];clear hw2;have hFr1:=hFr w2.drew k2.drew;obtain⟨f7,f9⟩:(∀ W,kz w2 W->W.frozen? ⟨w.heap.size+1,7,none⟩=false)/\(∀ W,kz w2 W->W.frozen? ⟨w.heap.size+1,9,none⟩=false):=⟨fun W hk=>(b3.kO hk).frozen 7,fun W hk=>(b3.kO hk).frozen 9⟩;refine KJ (wpIn_wide.2 ?_);refine ZT (fun w'=>cl w' (aq s 2) (pq t)/\cl w' (aq s 3) (pq m)) 11 [[0,1,2,3,5,6,7,8],[4,10],[9]] ⟨(KC (hblk.kO k2.drew)).2.2.1,(KC (hblk.kO k2.drew)).2.2.2.1⟩ ?_;simp only[PI];iterate 8 refine wG ?_
 refine YB rq (fun K hK=>?_);go_wp2_with (refine hFr1.mono ?_;clear hFr1;rintro e w3 ⟨rfl,hk3⟩);have k3:kz w2 w3:=kq.drew.tO hk3;have hPe1:=hPe w3 (k2.tO k3);refine hK _ _ (⟨(KC (hblk.kO (k2.tO k3))).2.2.1,(KC (hblk.kO (k2.tO k3))).2.2.2.1⟩) ?_;iterate 1 refine wG ?_
 refine YB rq (fun K hK=>?_);go_wp2_with (refine hPe1.mono ?_;clear hPe1;rintro e w4 ⟨rfl,hk4⟩);have k4:kz w2 w4:=k3.tO hk4;refine hK _ _ (⟨(KC (hblk.kO (k2.tO k4))).2.2.1,(KC (hblk.kO (k2.tO k4))).2.2.2.1⟩) ?_
 try simp only[Act.put,PU]
 refine KB ?_;have q7:=f7 w4 k4;have q9:=f9 w4 k4;obtain⟨y0,y1,y2,y3,y4,y5,y6,y7,y8,y9⟩:=Xo (b3.kO k4);go_wp2_with fail;have hkz:Keep [w.heap.size+1] w4 ((w4.setCell ⟨w.heap.size+1,7,none⟩ (.int .i64 (fc:Nat))).setCell ⟨w.heap.size+1,9,none⟩ (.int .i64 (pc:Nat))):=(kq.setCell (.inl sq) _).setCell (.inl sq) _;have b5:=((b3.kO k4).set 7 (.int .i64 (fc:Nat))).set 9 (.int .i64 (pc:Nat));have b5r:=(b2.kO k4).keep hkz sq;have k5:=(k2.tO k4).trans hkz iq;generalize (w4.setCell ⟨w.heap.size+1,7,none⟩ (.int .i64 (fc:Nat))).setCell ⟨w.heap.size+1,9,none⟩ (.int .i64 (pc:Nat))=w5 at *;simp at b5;have s5:w.heap.size+2<=w5.heap.size:=by have:=b5.lt;omega
 clear q7 q9 y0 y1 y2 y3 y4 y5 y6 y7 y8 y9 k4 hk4 k3 hk3 b3 b2 f7 f9 k2 s2 c0 c1 c2 c3 c4 c5 c6 c7 c8 c9 c10 c11 c12 c13 c14 c15 c16 c17 hFr hPe hkz hfc hpc;have c3:=(KC (hblk.kO k5)).2.2.2.1
 gi_wp2_with (first
  | (refine⟨trivial,?_⟩;refine(XBL _ _ _ rfl).mono ?_;rintro e w' ⟨rfl,rfl⟩))
 obtain⟨w6,hw6⟩:=ex (w5.alloc (.cells #[.pointer (some m)] 128));rw[<- hw6];have k6:kz w5 w6:=by rw[hw6];exact kq.alloc _
 have s6:w6.heap.size=w5.heap.size+1:=by rw[hw6];simp
 have bm:Boxed w6 w5.heap.size 128 (.pointer (some m)):=by rw[hw6];exact Boxed.new w5 _ _
 have hlt:=hI.lt;have hseq:=VBG 2 [w.heap.size+1] (hI.kO (k5.tO k6)) bm (fun g hg hm=>by have:=hlt g hg;simp at hm;omega) (by simp;omega) (fun g hg=>by simp at hg;omega);have h0:KSta w #[.int .i64 mode,.int .i64 view,.int .i64 epoch,.int .i64 seq,.int .i64 done,.int .i64 mount,.int .i64 gen,.int .i64 (fc:Nat),.int .i64 0,.int .i64 (pc:Nat)] [] w6:=⟨b5.kO k6,b5r.kO k6,k5.tO k6⟩
 refine QAY (n:=3) (gf:=234) (lb:=#[.pointer (some w5.heap.size)]) rfl (enters_of func234 (by kernel_rfl) rfl)
  hseq
  (fun A B C h k=>h.trans k)
  (fun W o o' hg' ho=>KeepR.putObj Z hg' ho)
  (fun _=>rfl) (KSta w #[.int .i64 mode,.int .i64 view,.int .i64 epoch,.int .i64 seq,.int .i64 done,.int .i64 mount,.int .i64 gen,.int .i64 (fc:Nat),.int .i64 0,.int .i64 (pc:Nat)]) (fun s A B h hk=>h.kept hk) (fun s W l o o' h hl hg' ho=>h.turned Z hg' ho)
  (fun pre x W l o o' h hl hg' ho=>trivial) h0
  (fun y=>{ tmps:=#[.pointer (some (aq s 0)),undef,.pointer (some w.heap.size),.pointer (some ⟨w.heap.size+1,0,none⟩),.pointer (some (aq s 0)),.bool false,undef,.pointer (some (aq s 0)),.pointer (some (aq s 0)),.pointer (some (aq s 5)),.agg #[.int .i64 mode,.int .i64 view,.int .i64 epoch,.int .i64 seq,.int .i64 done,.int .i64 mount,.int .i64 gen,.int .i64 0,.int .i64 0,.int .i64 0],.pointer (some (aq s 0)),.pointer (some (aq s 0)),.pointer (some (aq s 2)),.pointer (some t),.int .i64 (fc:Nat),.pointer (some (aq s 0)),.pointer (some (aq s 0)),.pointer (some (aq s 3)),.pointer (some m),.int .i64 (pc:Nat),.pointer (some ⟨w.heap.size+1,7,none⟩),.pointer (some ⟨w.heap.size+1,9,none⟩),.pointer (some (aq s 0)),.pointer (some (aq s 0)),.pointer (some (aq s 3)),.pointer (some m),.func (.func 234) #[] #[.pointer (some w5.heap.size)],.int .i64 (y.1:Nat),.int .i64 y.2,undef,undef,undef,undef,undef],defers:=[] }) ?assign ?body ?done
 case assign=>
  rintro l ⟨k,z⟩ W K hK;dsimp only[KZ] at hK ⊢
  gi_wp2
  simpa using hK
 case body=>
  rintro l pre ⟨k,z⟩ W hI' -;dsimp only;obtain⟨q,hq⟩:=ex (wrN pre.length);have hw:=YBN pre.length;obtain⟨r,hr⟩:=ex (wrN (pre.length+1));rw[<- hq,<- hr] at hw;have hbx:=hI'.cnt;rw[<- hq] at hbx;have hc8:cl W ⟨w.heap.size+1,8,none⟩ (ii q):=uq (hbx.cell 8);have hf8:=hbx.frozen 8;have hltB:=hbx.lt;have HI:=JB hI';have HR:=JB hr;clear h0 bm k6 hseq hI' hq hr hw6
  gi_wp2
  have hI':=JA HI;have hk3:Keep [w.heap.size+1] W (W.setCell ⟨w.heap.size+1,8,none⟩ (.int .i64 r)):=kq.sc (w.heap.size+1) 8
  have hfc:KeepsFrom w6.heap.size W (W.setCell ⟨w.heap.size+1,8,none⟩ (.int .i64 r)):=hk3.fromCells (fun g hg o ho=>by
   rw[List.mem_singleton.1 hg] at ho;rw[show W.heap[_]? = _ from hbx] at ho;cases ho;rfl) _
  have hfc2:KeepsFrom (w6.heap.size+2) W (W.setCell ⟨w.heap.size+1,8,none⟩ (.int .i64 r)):=hk3.fromCells (fun g hg o ho=>by
   rw[List.mem_singleton.1 hg] at ho;rw[show W.heap[_]? = _ from hbx] at ho;cases ho;rfl) _
  refine⟨hfc,⟨KeepC.ofKeep hk3 (fun x hx=>hx),hfc2⟩,⟨?_,hI'.res.keep hk3 sq,hI'.keep.trans hk3 iq⟩⟩;have:=hbx.set 8 (.int .i64 r);rw[List.length_append,List.length_singleton,<- JA HR];simpa using this
 case done=>
  intro D' xs W hD' hS hI' hdef;have hbx:=hI'.cnt;rw[hS,JBC _ (by have:=XAN I.bl I.ol I.bl.length;obtain⟨p1,p2,F1,F2,hi⟩:=hI;obtain⟨_,_,hb⟩:=hi.b;have:=hb.few;omega)] at hbx;obtain⟨q,hq⟩:=ex ((JW I.bl I.ol I.bl.length).length);rw[<- hq] at hbx;have HQ:=JB hq;clear hq;obtain⟨y0,y1,y2,y3,y4,y5,y6,y7,y8,y9⟩:=Xo (uq hbx);have hbr:=hI'.res;obtain⟨z0,z1,z2,z3,z4,z5,z6,z7,z8,z9⟩:=Xo hbr;have q0:=hbr.frozen 0;have q1:=hbr.frozen 1;have q2:=hbr.frozen 2;have q3:=hbr.frozen 3;have q4:=hbr.frozen 4;have q5:=hbr.frozen 5;have q6:=hbr.frozen 6;have q7:=hbr.frozen 7;have q8:=hbr.frozen 8;have q9:=hbr.frozen 9;have HI:=JB hI';clear h0 bm k6 hseq hI' hw6
  gi_wp2
  have hI':=JA HI;have hz:=((((((((((hbr.set 0 (.int .i64 mode)).set 1 (.int .i64 view)).set 2 (.int .i64 epoch)).set 3 (.int .i64 seq)).set 4 (.int .i64 done)).set 5 (.int .i64 mount)).set 6 (.int .i64 gen)).set 7 (.int .i64 (fc:Nat))).set 8 (.int .i64 (q:Nat))).set 9 (.int .i64 (pc:Nat)));have hKs:=(((((((((((Keep.refl [w.heap.size] W).setCell (p:=⟨w.heap.size,0,none⟩) (.inl sq) (.int .i64 mode)).setCell (p:=⟨w.heap.size,1,none⟩) (.inl sq) (.int .i64 view)).setCell (p:=⟨w.heap.size,2,none⟩) (.inl sq) (.int .i64 epoch)).setCell (p:=⟨w.heap.size,3,none⟩) (.inl sq) (.int .i64 seq)).setCell (p:=⟨w.heap.size,4,none⟩) (.inl sq) (.int .i64 done)).setCell (p:=⟨w.heap.size,5,none⟩) (.inl sq) (.int .i64 mount)).setCell (p:=⟨w.heap.size,6,none⟩) (.inl sq) (.int .i64 gen)).setCell (p:=⟨w.heap.size,7,none⟩) (.inl sq) (.int .i64 (fc:Nat))).setCell (p:=⟨w.heap.size,8,none⟩) (.inl sq) (.int .i64 (q:Nat))).setCell (p:=⟨w.heap.size,9,none⟩) (.inl sq) (.int .i64 (pc:Nat)));simp only[PU] at hz;have hdef2:((((((((((W.setCell w.heap.size (.int .i64 mode)).setCell (aq w.heap.size 1) (.int .i64 view)).setCell (aq w.heap.size 2) (.int .i64 epoch)).setCell (aq w.heap.size 3) (.int .i64 seq)).setCell (aq w.heap.size 4) (.int .i64 done)).setCell (aq w.heap.size 5) (.int .i64 mount)).setCell (aq w.heap.size 6) (.int .i64 gen)).setCell (aq w.heap.size 7) (.int .i64 (fc:Nat))).setCell (aq w.heap.size 8) (.int .i64 (q:Nat))).setCell (aq w.heap.size 9) (.int .i64 (pc:Nat))).heap[D']? = some (.deferred (some [])):=(hKs.block D' (Array.getElem?_eq_some_iff.1 hdef).1 (by simp;omega)).trans hdef;have hzz:=YF (.deferred none) hz hdef2 rfl;obtain⟨e0,e1,e2,e3,e4,e5,e6,e7,e8,e9⟩:=Xo hzz;have hkw:=(hI'.keep.trans hKs iq).putObj (g:=D') Z (.deferred none);refine⟨sq,.inl ⟨_,_,rfl,run_takeDeferred hdef2,?_⟩⟩;refine⟨.agg #[.int .i64 mode,.int .i64 view,.int .i64 epoch,.int .i64 seq,.int .i64 done,.int .i64 mount,.int .i64 gen,.int .i64 (fc:Nat),.int .i64 (q:Nat),.int .i64 (pc:Nat)],?_,by rw[JA HQ];rfl,hkw⟩;simp[results,results22,go_sem,e0,e1,e2,e3,e4,e5,e6,e7,e8,e9]
theorem QAm {w:World} {base s d p m:Nat} {Fd Fw:List Nat} {a b:Value} {B:Nat} {S:PS} (h:StoreIs w base s d g t p m Fd Ft Fw Fm a b B S) :
 cr 22 #[pq s] w (.agg (XBr S).toArray):=
 JAh s d p a b S h.blk h.log.tab h.img
end
section
variable (w:World) (base x:Nat) (L:Value) (F:List Nat) (next:Nat) (sl:List PSlot) (h:WinIs w base x L F next sl)
include h
theorem noneW_is:cq 264 #[pq x] w (.bool false):=by
 obtain⟨g,c,rfl,b⟩:=h.form;obtain⟨d,e⟩:=h.cells;have f:=h.pos;have a:((sl.length:Nat):Int)≠0:=Z;have i:(((sl.length:Nat):Int) == 0)=false:=uq a;generalize sl.length=m at *;clear h;go_enter func264,ntmps264
 go_wp2
 go_ret;exact⟨rfl,rfl⟩
theorem YAv (g c:Nat) (a:L=.slice (some g) sl.length c) (n:Nat) (f:n<=4000000000) :
 cr 265 #[pq x,n] w (.pointer (some (aq g (n % sl.length*6)))):=by
 subst a;obtain⟨b,j⟩:=h.cells;have d:=h.pos;have k:=h.few;have e:n % sl.length<sl.length:=CP _ d;generalize sl.length=m at *;clear h;obtain⟨i,hi⟩:=ex (n % m)
 have l:IntKind.i64.wrap ((n:Int).tmod (m:Nat))=(i:Nat):=by
  rw[C8 Z,AK,hi];have:((n:Int) % (m:Nat))=((n % m:Nat):Int):=sq;omega
 have o:(n:Int).tmod (m:Nat)=(i:Nat):=by
  rw[C8 Z,hi];simp
 rw[<- hi] at e ⊢;have p:((i:Nat):Int)<(m:Nat):=Z;have r:m≠0:=Z;clear hi;go_enter func265,ntmps265;go_wp2_with fail;refine ZT (fun w'=>cl w' x (.slice (some g) m c)) 11 [[0,1,2,3,4,5,6,7,8,9,10]] b ?_;simp only[PI];iterate 11 refine wG ?_
 refine KB ?_;go_wp2_with fail;go_ret;exact⟨sq,kq.drew⟩
theorem WinIs.slot (g c:Nat) (b:L=.slice (some g) sl.length c) (i:Nat) (hi:i<sl.length) :
 cl w (aq g (i*6)) (.int .i64 sl[i].o.k)/\cl w (aq g (i*6+1)) (.int .i64 sl[i].o.b)/\cl w (aq g (i*6+2)) (.int .i64 sl[i].o.c)/\cl w (aq g (i*6+3)) (.int .i64 sl[i].o.e)/\w.cell? (aq g (i*6+4))=some sl[i].v/\cl w (aq g (i*6+5)) (.bool sl[i].is):=by
 subst b;have a:=h.row;refine⟨?_,?_,?_,?_,?_,?_⟩
 . exact XQ a (by rw[show i*6=i*6+0 from rfl,JP KK sl i 0 hi Z];rfl)
 . exact XQ a (by rw[JP KK sl i 1 hi Z];rfl)
 . exact XQ a (by rw[JP KK sl i 2 hi Z];rfl)
 . exact XQ a (by rw[JP KK sl i 3 hi Z];rfl)
 . exact XQ a (by rw[JP KK sl i 4 hi Z];rfl)
 exact XQ a (by rw[JP KK sl i 5 hi Z];rfl)
theorem PeekW_is:Calls prog 266 #[pq x] w fun e w'=>∃ q,sl.getD (next % sl.length) PSlot.none_=q/\e=.returned (.tuple #[.agg #[.int .i64 q.o.k,.int .i64 q.o.b,.int .i64 q.o.c,.int .i64 q.o.e,q.v],.bool q.is])/\(∃ A c,q.v=.slice A q.o.d.length c)/\kz w w':=by
 obtain⟨g,c,s,P⟩:=h.form;have t:=fun W (a:kz w W)=>noneW_is W base x L F next sl (h.kO a);have u:=fun W (a:kz w W)=>YAv W base x L F next sl (h.kO a) g c s next (by have:=h.nb;omega);have y:next % sl.length<sl.length:=CP _ h.pos;have p:=fun W (a:kz w W)=>(h.kO a).slot W base x L F next sl g c s (next % sl.length) y;have z:sl.getD (next % sl.length) PSlot.none_=sl[next % sl.length]:=by rw[AB,AC y];rfl
 have r:=h.dat sl[next % sl.length] (AQ _);have G:=fun W (a:kz w W)=>(h.kO a).cells.2;rw[z];clear z;generalize sl[next % sl.length]=q at *;obtain⟨Q,⟨k,b,j,e,d⟩,is⟩:=q;simp only at p r;obtain⟨l,m,rfl,_⟩:=ZB r;generalize next % sl.length=i at *;clear h r;have n:kz w (w.alloc (.cells #[zz,zz,zz,zz,zn] 95)):=kq.alloc _;have R:=G _ n;go_enter func266,ntmps266
 go_wp2_with (first
  | (go_at_call 264;apply mq (t _ n);clear t)
  | (go_at_call 265;refine(u _ n).mono ?_;clear u;rintro e w1 ⟨rfl,B⟩))
 have C:=n.tO B;have f:=(Blk.new w 95 #[zz,zz,zz,zz,zn]).kO B;have S:=f.frozen 0;have T:=f.frozen 1;have U:=f.frozen 2;have V:=f.frozen 3;have X:=f.frozen 4;obtain⟨Y,z1,z2,z3,z4⟩:=QI f;have o:=f.put5 (.int .i64 k) (.int .i64 b) (.int .i64 j) (.int .i64 e) (.slice l d.length m);have D:=Keep.put5 w1 w.heap.size (.int .i64 k) (.int .i64 b) (.int .i64 j) (.int .i64 e) (.slice l d.length m);unfold put5 at o D;have E:=(C.trans D iq).drew;replace o:=o.drew;refine ZT (fun w'=>cl w' (aq g (i*6)) (ii k)/\cl w' (aq g (i*6+1)) (ii b)/\cl w' (aq g (i*6+2)) (ii j)/\cl w' (aq g (i*6+3)) (ii e)/\cl w' (aq g (i*6+4)) (.slice l d.length m)/\cl w' (aq g (i*6+5)) (.bool is)) 9 [[0,1,2,3,4,5,6,7],[8]] (p _ (C.tO kq.drew)) ?_;simp only[PI];iterate 8 refine wG ?_
 refine YB rq (fun K H=>?_);go_wp2_with fail;refine H _ _ (p _ E) ?_
 try simp only[Act.put,PU]
 refine KB ?_;go_wp2_with fail;obtain⟨I,J,M,N,O⟩:=QI o;exact Af (v:=.tuple #[.agg #[ii k,ii b,ii j,ii e,.slice l d.length m],.bool is]) (by simp[results,results266,go_sem,I,J,M,N,O]) rfl ⟨_,rfl,rfl,⟨_,_,rfl⟩,E⟩
end
theorem KAm (sl:List PSlot) (i:Nat) (hi:i<sl.length) (y:PSlot) :
 ((((((sl.flatMap slc).set (i*6) (.int .i64 y.o.k)).set (i*6+1) (.int .i64 y.o.b)).set (i*6+2) (.int .i64 y.o.c)).set (i*6+3) (.int .i64 y.o.e)).set (i*6+4) y.v).set (i*6+5) (.bool y.is)=(sl.set i y).flatMap slc:=by
 rw[show (sl.flatMap slc).set (i*6) (.int .i64 y.o.k)=(sl.flatMap slc).set (i*6+0) (.int .i64 y.o.k) from rfl,Xb KK sl i 0 hi Z _ ⟨sl[i].v,⟨y.o.k,sl[i].o.b,sl[i].o.c,sl[i].o.e,sl[i].o.d⟩,sl[i].is⟩ rfl,
  Xb KK _ i 1 (uq hi) Z _ ⟨sl[i].v,⟨y.o.k,y.o.b,sl[i].o.c,sl[i].o.e,sl[i].o.d⟩,sl[i].is⟩ (by simp[slc]),List.set_set,
  Xb KK _ i 2 (uq hi) Z _ ⟨sl[i].v,⟨y.o.k,y.o.b,y.o.c,sl[i].o.e,sl[i].o.d⟩,sl[i].is⟩ (by simp[slc]),List.set_set,
  Xb KK _ i 3 (uq hi) Z _ ⟨sl[i].v,⟨y.o.k,y.o.b,y.o.c,y.o.e,sl[i].o.d⟩,sl[i].is⟩ (by simp[slc]),List.set_set,
  Xb KK _ i 4 (uq hi) Z _ ⟨y.v,⟨y.o.k,y.o.b,y.o.c,y.o.e,sl[i].o.d⟩,sl[i].is⟩ (by simp[slc]),List.set_set,
  Xb KK _ i 5 (uq hi) Z _ y (by simp[slc]),List.set_set]
def put6 (w:World) (g i:Nat) (y:PSlot):World:=
 (((((w.setCell (aq g (i*6)) (.int .i64 y.o.k)).setCell (aq g (i*6+1)) (.int .i64 y.o.b)).setCell (aq g (i*6+2)) (.int .i64 y.o.c)).setCell (aq g (i*6+3)) (.int .i64 y.o.e)).setCell (aq g (i*6+4)) y.v).setCell (aq g (i*6+5)) (.bool y.is)
theorem Keep.put6 (w:World) (g i:Nat) (y:PSlot):Keep [g] w (Go.Proofs.YtfedaknhecbehaaGreat.put6 w g i y):=by
 unfold Go.Proofs.YtfedaknhecbehaaGreat.put6;exact((((((Keep.refl [g] w).setCell (.inl sq) _).setCell (.inl sq) _).setCell (.inl sq) _).setCell (.inl sq) _).setCell (.inl sq) _).setCell (.inl sq) _
theorem WinIs.setSlot {w d:World} {base x:Nat} {L:Value} {F:List Nat} {next:Nat} {sl:List PSlot} (h:WinIs w base x L F next sl) (l:kz w d) (g c:Nat) (j:L=.slice (some g) sl.length c) (i:Nat) (hi:i<sl.length) (y:PSlot)
 (r:d.ownsRow base 5 1 y.v y.o.d.length (bys y.o.d)) (s:y.is=false->y=PSlot.none_) :
 ∃ F',WinIs (put6 d g i y) base x L F' next (sl.set i y)/\Keep F w (put6 d g i y)/\∀ z∈F',z∈F\/z∈y.v.ownBlock.toList:=by
 have e:=h.kO l;have k:=Keep.put6 d g i y;have t:x∉[g]:=fun f=>e.xL (by rw[j];simp at f;simp[Value.ownBlock,f])
 have o:∀ {q:Value} {n:Nat} {ys:List Value},d.ownsRow base 5 1 q n ys->(put6 d g i y).ownsRow base 5 1 q n ys:=fun a=>XB a k (fun z b f=>by
  simp at f;subst f;exact own_ne a e.row (by decide) b (by rw[j];rfl))
 have u:(put6 d g i y).ownsRow base 313 6 L (sl.set i y).length ((sl.set i y).flatMap slc):=by
  rw[<- KAm sl i hi y,Bj];have v:=e.row;subst j;exact YT (YT (YT (YT (YT (YT v _ _) _ _) _ _) _ _) _ _) _ _
 refine⟨_,⟨e.blk.keep k t,u,fun q a=>?_,rfl,h.base,uq h.pos,uq h.few,fun q a p=>?_,h.nb⟩,?_,fun z b=>?_⟩
 . rcases AW a with a | rfl
   . exact o (e.dat q a)
   exact o r
 . rcases AW a with a | rfl
   . exact h.zero q a p
   exact s p
 . exact l.zero.trans (k.sub (m:=F) (fun z b=>by simp at b;subst b;exact h.inL _ (by rw[j];simp[Value.ownBlock]))) (fun z b=>.inl b)
 simp only[AM,AD,Bk] at b;rcases b with rfl | b | ⟨q,a,b⟩
 . exact .inl h.inX
 . exact .inl (h.inL _ b)
 rcases AW a with a | rfl
 . exact .inl (h.inQ a _ b)
 exact .inr b
theorem WinIs.setNext {w:World} {base x:Nat} {L:Value} {F:List Nat} {next:Nat} {sl:List PSlot} (h:WinIs w base x L F next sl) (n:Nat) (e:1<=n/\n<=2000000000) :
 WinIs (w.setCell (aq x 1) (.int .i64 n)) base x L F n sl/\Keep F w (w.setCell (aq x 1) (.int .i64 n)):=by
 have c:Keep [x] w (w.setCell (aq x 1) (.int .i64 n)):=kq.sc x 1
 exact⟨⟨uq (h.blk.set 1 (.int .i64 n)),XB h.row c (fun z a b=>by simp at b;subst b;exact h.xL (uq a)),fun q d=>XB (h.dat q d) c (fun z a b=>by simp at b;subst b;exact h.xQ d (uq a)),
  h.foot,h.base,h.pos,h.few,h.zero,e⟩,c.sub (fun z a=>by simp at a;subst a;exact h.inX)⟩
theorem PSlot.none_dat (w:World) (base:Nat):w.ownsRow base 5 1 PSlot.none_.v PSlot.none_.o.d.length (bys PSlot.none_.o.d):=Ab _ _ _ _
section
variable (w:World) (base x:Nat) (L:Value) (F:List Nat) (next:Nat) (sl:List PSlot) (h:WinIs w base x L F next sl)
include h
theorem ZBA (f:(sl.getD (next % sl.length) PSlot.none_).is=true):Calls prog 268 #[pq x] w fun e w'=>e=.returned (.bool true)/\∃ F',WinIs w' base x L F' next (sl.set (next % sl.length) PSlot.none_)/\Keep F w w'/\∀ z∈F',z∈F:=by
 obtain⟨g,c,l,H⟩:=h.form;have o:next % sl.length<sl.length:=CP _ h.pos;have r:=PeekW_is w base x L F next sl h;have p:=fun W (a:kz w W)=>YAv W base x L F next sl (h.kO a) g c l next (by have:=h.nb;omega);have s:=fun W (a:kz w W)=>h.setSlot a g c l (next % sl.length) o PSlot.none_ (PSlot.none_dat W base) (fun _=>rfl);have y:=fun W (a:kz w W)=>(h.kO a).cells.2;have A:=h.blk.lt;have m:=fun W (a:kz w W)=>(h.kO a).slot W base x L F next sl g c l (next % sl.length) o;have k:∀ W,kz w W->∀ j,W.frozen? ⟨g,j,none⟩=false:=fun W a j=>ZS (by have:=(h.kO a).row;rw[l] at this;exact this) j;clear h;generalize sl[next % sl.length]=q0 at m;obtain⟨I,J,K⟩:=q0;simp only at m;obtain⟨i,hi⟩:=ex (next % sl.length);rw[<- hi] at p s m o;have B:=JB hi;have C:=JB f;clear f hi;go_enter func268,ntmps268
 go_wp2_with (first
  | (go_at_call 266
     refine r.mono ?_;clear r;rintro e w1 ⟨q,f,rfl,⟨M,N,t⟩,n⟩;rw[<- f,JA C,f,t];clear f t;have O:=y w1 n
     have P:x<w1.heap.size:=BC A n.size)
  | (go_at_call 265
     refine(p _ (by exact n.alloc _)).mono ?_;clear p;rintro e b ⟨rfl,D⟩;have d:=(n.alloc _).tO D;obtain⟨Q,R,S,T,U,V⟩:=m b d;have X:=k b d (i*6);have Y:=k b d (i*6+1);have f2:=k b d (i*6+2);have f3:=k b d (i*6+3);have f4:=k b d (i*6+4);have f5:=k b d (i*6+5)))
 go_ret;obtain⟨F',u,v,E⟩:=s b d;simp only[put6,PSlot.none_,POp.zero] at u v;rw[<- JA B];simp only[PSlot.none_,POp.zero];refine⟨rfl,F',u,v,fun z G=>(E z G).resolve_right (by simp[PSlot.none_,Value.ownBlock])⟩
theorem ZBm (K:(sl.getD (next % sl.length) PSlot.none_).is=true) (V:next<=1000000000):Calls prog 269 #[pq x] w fun e w'=>∃ v b,e=.returned (.tuple #[v,b])/\∃ F',WinIs w' base x L F' (next+1) (sl.set (next % sl.length) PSlot.none_)/\Keep F w w'/\∀ z∈F',z∈F:=by
 have M:=PeekW_is w base x L F next sl h;have t:=fun W (N:kz w W)=>ZBA W base x L F next sl (h.kO N) K;have u:=h.lt;have X:=h.blk.lt;go_enter func269,ntmps269;have i:kz w (w.alloc (.cells #[zz,zz,zz,zz,zn] 95)):=kq.alloc _;have y:=PeekW_is _ base x L F next sl (h.kO i);have a:=Blk.new w 95 #[zz,zz,zz,zz,zn]
 go_wp2_with (first
  | (go_at_call 266
     refine y.mono ?_;clear y M;rintro e w1 ⟨q,O,rfl,⟨c,d,A⟩,j⟩;rw[A];clear O A;have B:=t _ ((i.tO j).alloc (.cells #[ii q.o.k,ii q.o.b,ii q.o.c,ii q.o.e,.slice c q.o.d.length d] 95));have l:=Blk.new w1 95 #[ii q.o.k,ii q.o.b,ii q.o.c,ii q.o.e,.slice c q.o.d.length d];replace a:=a.kO (j.alloc (.cells #[ii q.o.k,ii q.o.b,ii q.o.c,ii q.o.e,.slice c q.o.d.length d] 95))
     clear t)
  | (go_at_call 268
     refine B.mono ?_;clear B;rintro e m ⟨rfl,F',n,o,p⟩;have Y:=(i.tO j).size;have C:w.heap.size∉F:=fun f=>by have:=u _ f;omega
     have P:w1.heap.size∉F:=fun f=>by have:=u _ f;omega
     replace a:=a.keep o C;replace l:=l.keep o P;obtain⟨v0,v1,v2,v3,v4⟩:=QI l;obtain⟨z0,z1,z2,z3,z4⟩:=QI a;have f0:=a.frozen 0;have f1:=a.frozen 1;have f2:=a.frozen 2;have f3:=a.frozen 3;have f4:=a.frozen 4;have k1:=n.cells.2;have r:=n.blk.frozen 1;have Q:x≠w.heap.size:=Z;have a0:x≠w1.heap.size:=by omega))
 obtain⟨R,D⟩:=n.setNext (next+1) Z;have S:Keep [x] m (m.setCell (aq x 1) (.int .i64 (next+1:Nat))):=kq.sc x 1;have T:=a.keep S (by simpa using fun e=>Q e.symm);have E:=T.put5 (.int .i64 q.o.k) (.int .i64 q.o.b) (.int .i64 q.o.c) (.int .i64 q.o.e) (.slice c q.o.d.length d);have k:=Keep.put5 (m.setCell (aq x 1) (.int .i64 (next+1:Nat))) w.heap.size (.int .i64 q.o.k) (.int .i64 q.o.b) (.int .i64 q.o.c) (.int .i64 q.o.e) (.slice c q.o.d.length d);have s:=R.keep k (fun z g f=>by simp at f;subst f;exact C (p _ g));unfold put5 at E k s;obtain⟨G,r,H,I,J⟩:=QI E;have U:((next+1:Nat):Int)=(next:Nat)+1:=Z;rw[U] at G r H I J s k D;refine Af (v:=.tuple #[.agg #[ii q.o.k,ii q.o.b,ii q.o.c,ii q.o.e,.slice c q.o.d.length d],.bool q.is]) (by simp[results,results269,go_sem,G,r,H,I,J]) rfl ⟨_,_,rfl,F',s,?_,p⟩;exact((((i.tO j).alloc _).zero.trans o (fun z g=>.inl g)).trans D (fun z g=>.inl (p z g))).trans k iq
end
theorem elemSlot:ElemN prog 304 313 (.agg #[zz,zz,zz,zz,zn,.bool false]) 6 64:=ElemN.of underlying304 (by kernel_rfl) rfl Z
section
variable (w:World) (base x:Nat) (L:Value) (F:List Nat) (next:Nat) (sl:List PSlot) (h:WinIs w base x L F next sl)
include h
theorem ZBl (n:Nat) (a6:next<=n) (Y:n<next+sl.length) (a7:n<=2147483647) (B:(sl.getD (n % sl.length) PSlot.none_).is=false) (k b c e:Int) (A:Option Addr) (f:Nat) (d:List UInt8) (hd:w.ownsRow base 5 1 (.slice A d.length f) d.length (bys d)) :
 Calls prog 153 #[pq x,n,.agg #[ii k,ii b,ii c,ii e,.slice A d.length f]] w fun r w'=>r=.returned zz /\
  ∃ F',WinIs w' base x L F' next (sl.set (n % sl.length) ⟨.slice A d.length f,⟨k,b,c,e,d⟩,true⟩)/\Keep F w w'/\∀ z∈F',z∈F\/z∈(Value.slice A d.length f).ownBlock.toList:=by
 have I:=fun W (a:kz w W)=>noneW_is W base x L F next sl (h.kO a);have u:kz w (w.alloc (.cells #[ii k,ii b,ii c,ii e,.slice A d.length f] 95)):=kq.alloc _;have a0:=Blk.new w 95 #[ii k,ii b,ii c,ii e,.slice A d.length f];obtain⟨g,v,p,hc⟩:=h.form;obtain⟨C,k1⟩:=(h.kO u).cells;have hi:n % sl.length<sl.length:=CP _ h.pos;have D:=fun W (a:kz w W)=>YAv W base x L F next sl (h.kO a) g v p n Z;have J:=fun W (a:kz w W)=>h.setSlot a g v p (n % sl.length) hi ⟨.slice A d.length f,⟨k,b,c,e,d⟩,true⟩ (QB hd a) (fun h=>by cases h);have t:=fun W (a:kz w W)=>(h.kO a).slot W base x L F next sl g v p (n % sl.length) hi;have s:∀ W,kz w W->∀ j,W.frozen? ⟨g,j,none⟩=false:=fun W a j=>ZS (by have:=(h.kO a).row;rw[p] at this;exact this) j;have E:sl[n % sl.length].is=false:=by rw[AB,AC hi] at B;exact B
 have a8:¬ ((n:Nat):Int)<(next:Nat):=Z;have a1:((n:Nat):Int)<((next:Nat):Int)+(sl.length:Nat):=Z;rw[p] at C;generalize sl[n % sl.length]=q0 at t E;obtain⟨a9,aa,ab⟩:=q0;simp only at t E;subst E;obtain⟨i,G⟩:=ex (n % sl.length);rw[<- G] at D J t hi;have a2:=JB G;obtain⟨m,y⟩:=ex sl.length;have ac:m<=16:=by rw[y];exact h.few
 have ad:=h.nb;rw[<- y] at C a1;have ae:=JB y;clear B G Y y p h;go_enter func153,ntmps153;go_wp2_with (apply mq (I _ u);clear I);have a3:=D _ u.drew;refine ZT (fun w'=>cl w' x (.slice (some g) m v)/\cl w' (aq x 1) next) 11 [[0,1,2,3,4,5,6,7,8,9,10]] ⟨C,k1⟩ ?_;simp only[PI];iterate 11 refine wG ?_
 refine KB ?_
 go_wp2_with (go_at_call 265
              apply a3.mono;rintro r w1 ⟨rfl,M⟩;have H:=u.drew.tO M;obtain⟨N,O,P,Q,R,S⟩:=t w1 H)
 have T:=a0.kO (kq.drew.tO M);have a4:=D w1.drew H.drew;obtain⟨o0,o1,o2,o3,o4⟩:=QI T.drew;clear N O P Q R S;refine ZT (fun w'=>cl w' w.heap.size (ii k)/\cl w' (aq w.heap.size 1) (ii b)/\cl w' (aq w.heap.size 2) (ii c)/\cl w' (aq w.heap.size 3) (ii e)/\cl w' (aq w.heap.size 4) (.slice A d.length f)) 5 [[0,1,3,4],[2]] ⟨o0,o1,o2,o3,o4⟩ ?_;simp only[PI];iterate 4 refine wG ?_
 refine YB rq (fun K a5=>?_);go_wp2_with (apply a4.mono;rintro r l ⟨rfl,U⟩);have o:=H.drew.tO U;refine a5 _ _ (QI (T.drew.kO U)) ?_
 try simp only[Act.put,PU]
 refine KB ?_;obtain⟨N,O,P,Q,R,S⟩:=t l o;have f0:=s l o (i*6);have f1:=s l o (i*6+1);have f2:=s l o (i*6+2);have f3:=s l o (i*6+3);have f4:=s l o (i*6+4);have f5:=s l o (i*6+5);go_wp2_with fail;go_ret;obtain⟨F',V,X,r3⟩:=J l o;simp only[put6] at V X;rw[<- JA a2];exact⟨rfl,F',V,X,r3⟩
end
section
open Go.RowKit Go.Shelf
attribute [local go_sem] AZ
theorem WinIs.putObj {base x k next:Nat} {L:Value} {F:List Nat} {sl:List PSlot} {o:Obj} (h:WinIs W base x L F next sl) (a:Obj) (b:W.heap[k]? = some o) (ho:o.isCells=false):WinIs (W.putObj k a) base x L F next sl:=
 ⟨YF a h.blk b ho,ownsRow_putObj h.row a b ho,fun q c=>ownsRow_putObj (h.dat q c) a b ho,h.foot,h.base,h.pos,h.few,h.zero,h.nb⟩
abbrev WRnd:=Nat×PSlot
end
section
open Go.RowKit Go.Shelf
attribute [local go_sem] AZ
structure KLen (w:World) (pre:List WRnd) (W:World):Prop where
 cnt:Boxed W w.heap.size 3 (.int .i64 (pre.length:Nat))
 keep:kz w W
theorem KLen.kept {w A B:World} {pre:List WRnd} (h:KLen w pre A) (a:kz A B):KLen w pre B:=⟨KA h.cnt a sq,h.keep.tO a⟩
theorem KLen.turned {w:World} {k:Nat} {pre:List WRnd} {o a:Obj} (h:KLen w pre W) (b:w.heap.size<=k) (c:W.heap[k]? = some o) (ho:o.isCells=false):KLen w pre (W.putObj k a):=
 ⟨JC a h.cnt c ho,h.keep.putObj b a⟩
theorem ZAs (m:Nat):(madeCells #[zz,zz,zz,zz,zn,.bool false] (m*6)).toList=(XH m).flatMap slc:=by
 apply Bs;intro j;by_cases b:j<m*6
 . have c:(XH m)[j / 6]'(by simp[XH];omega)=PSlot.none_:=by simp[XH]
   have a:=JP KK (XH m) (j / 6) (j % 6) (by simp[XH];omega) Z;rw[show j / 6*6+j % 6=j from Z,c] at a;rw[a];have:j % 6=0\/j % 6=1\/j % 6=2\/j % 6=3\/j % 6=4\/j % 6=5:=Z;rw[Array.getElem?_toList,madeCells,Array.getElem?_map,Array.getElem?_range,AP b];simp only[Ao,As,Am,Au];rcases this with h | h | h | h | h | h <;> (rw[show j % (0+1+1+1+1+1+1)=j % 6 from rfl,h];rfl)
 rw[BF (by rw[C2,Dd];omega),BF (by rw[Qn KK];simp[XH];omega)]
theorem ZBK (m next:Nat) (c:1<=m) (d:m<=16) (k:1<=next/\next<=1000000000) (w:World) :
 Calls prog 146 #[m,next] w fun e w'=>∃ x,e=.returned (pq x)/\∃ F,WinAt w' w.heap.size x F next (XH m)/\kz w w':=by
 have l:¬ ((m:Nat):Int)<1:=Z;have n:¬ (16:Int)<((m:Nat):Int):=Z;have o:¬ ((next:Nat):Int)<1:=Z;have p:¬ (2147483647:Int)<((next:Nat):Int):=Z;go_enter func146,ntmps146;go_wp2_with (at_make;refine elemSlot.wp_make rfl _ _ rfl .i64 .i64 m rfl rfl Z Z ?_;intro w1 f g h i b;obtain rfl:f=w.heap.size:=g;clear h);go_ret
 have j:w1.ownsRow w.heap.size 313 6 (.slice (some w.heap.size) m m) m ((XH m).flatMap slc):=
  ⟨by rw[Qn KK];simp[XH],.inr ⟨w.heap.size,m,_,rfl,AG _,i,AG _,by simp[maxLen];omega,by rw[Dd],by rw[<- ZAs];exact AH (by rw[C2,Dd];exact AG _)⟩⟩
 refine⟨_,rfl,⟨_,_,Blk.new _ _ _,by have:=KD j (.cells #[.slice (some w.heap.size) m m,next] 306);simpa [XH] using this,fun q a=>?_,rfl,b.size,by simpa [XH] using c,by simpa [XH] using d,fun q a _=>?_,Z⟩,b.alloc _⟩
 . rw[AV a];exact PSlot.none_dat _ _
 exact AV a
end
structure ReplicaIs (w:World) (base r s d x:Nat) (Fs Fx:List Nat) (B:Nat) (R:RS):Prop where
 blk:Blk w r 209 #[pq s,pq x]
 st:StoreAt w base s d Fs B R.S
 win:WinAt w base x Fx R.next R.sl
 ap:Apart Fs Fx
 rs:r∉Fs
 rx:r∉Fx
 rb:base<=r
 mode:R.S.st.mode=1
 view:1<=R.S.st.view/\R.S.st.view<=2147483647
def YU (r:Nat) (Fs Fx:List Nat):List Nat:=r :: (Fs++Fx)
namespace ReplicaIs
variable {w w':World} {base r s d x:Nat} {Fs Fx l:List Nat} {B:Nat} {R:RS}
theorem keep (h:ReplicaIs w base r s d x Fs Fx B R) (a:Keep l w w') (ha:Apart (YU r Fs Fx) l):ReplicaIs w' base r s d x Fs Fx B R:=
 ⟨h.blk.keep a (ha r (by simp[YU])),h.st.keep a (fun y b=>ha y (by simp[YU,b])),h.win.keep a (fun y b=>ha y (by simp[YU,b])),h.ap,h.rs,h.rx,h.rb,h.mode,h.view⟩
theorem kO (h:ReplicaIs w base r s d x Fs Fx B R) (a:kz w w'):ReplicaIs w' base r s d x Fs Fx B R:=h.keep a Apart.nil_right
theorem lt (h:ReplicaIs w base r s d x Fs Fx B R):∀ y∈YU r Fs Fx,y<w.heap.size:=fun y a=>by
 simp only[YU,AM,AD] at a;rcases a with rfl | a | a
 . exact h.blk.lt
 . exact h.st.lt y a
 exact h.win.lt y a
theorem ge (h:ReplicaIs w base r s d x Fs Fx B R):∀ y∈YU r Fs Fx,base<=y:=fun y a=>by
 simp only[YU,AM,AD] at a;rcases a with rfl | a | a
 . exact h.rb
 . exact h.st.ge y a
 exact h.win.ge y a
theorem cells (h:ReplicaIs w base r s d x Fs Fx B R):cl w r (pq s)/\cl w (aq r 1) (pq x):=⟨uq (h.blk.cell 0),uq (h.blk.cell 1)⟩
theorem setSt (h:ReplicaIs w base r s d x Fs Fx B R) {a:List Nat} {S':PS} (hs:StoreAt w' base s d a B S') (b:Keep Fs w w') (c:Grow w Fs a) (e:S'.st.mode=1) (f:S'.st.view=R.S.st.view):ReplicaIs w' base r s d x a Fx B ⟨S',R.next,R.sl⟩:=
 ⟨h.blk.keep b h.rs,hs,h.win.keep b h.ap.symm,h.ap.grow c h.win.lt,fun g=>(c r g).elim h.rs (by have:=h.blk.lt;omega),h.rx,h.rb,e,f ▸ h.view⟩
theorem setWin (h:ReplicaIs w base r s d x Fs Fx B R) {a:List Nat} {sl:List PSlot} (g:WinAt w' base x a n sl) (c:Keep Fx w w') (e:∀ y∈a,y∈Fx\/(y∉Fs/\y≠r)):ReplicaIs w' base r s d x Fs a B ⟨R.S,n,sl⟩:=
 ⟨h.blk.keep c h.rx,h.st.keep c h.ap,g,fun y f i=>(e y i).elim (h.ap y f) (fun b=>b.1 f),h.rs,fun j=>(e r j).elim h.rx (fun b=>b.2 rfl),h.rb,h.mode,h.view⟩
end ReplicaIs
theorem YO {w:World} {base s d:Nat} {F:List Nat} {B:Nat} {S:PS} (h:StoreAt w base s d F B S):cr 22 #[pq s] w (.agg #[ii S.st.mode,ii S.st.view,ii S.st.epoch,ii S.st.seq,ii S.st.done,ii S.st.mount,ii S.st.gen,(YD S.us:Nat),(KBp S:Nat),(KN S.I.ol:Nat)]):=by
 obtain⟨g,t,p,m,Fd,Ft,Fw,Fm,a,b,h,rfl⟩:=h;exact QAm h
section
variable (w:World) (base r s d x:Nat) (Fs Fx:List Nat) (B:Nat) (R:RS) (h:ReplicaIs w base r s d x Fs Fx B R)
include h
theorem VAq (hs:R.S.st.seq<=2147483647) (i:R.S.st.epoch<=2147483647) (j:R.S.st.done<=R.S.st.seq) :
 Calls prog 155 #[pq r] w fun e w'=>∃ u,e=.returned (.tuple #[u,zz])/\w'.ownsRow w.heap.size 5 1 u 25 (bys (QK 8 R.S.st.view R.S.st.seq 0 0 R.S.st.epoch R.S.st.done []))/\kz w w':=by
 have f:=YO h.st;have a:=fun W=>KAI (k:=8) (v:=R.S.st.view) (s:=R.S.st.seq) (b:=0) (c:=0) (e:=R.S.st.epoch) (d:=R.S.st.done) (A:=none) (n:=0) 0 (xs:=[]) (w:=W) (Rd.nil _ _) ⟨by have:=h.view;omega,.inr (.inr (.inr (.inl ⟨rfl,Z,rfl,rfl,Z,Z,rfl⟩)))⟩;obtain⟨o,p⟩:=h.cells;unfold frv at a;generalize R.S.st=st at *;obtain⟨mode,view,t,seq,y,z,B⟩:=st;simp only at f a hs i j ⊢;go_enter func155,ntmps155
 go_wp2_with (first
  | (go_at_call 22;refine f.mono ?_;clear f;rintro e w1 ⟨rfl,g⟩)
  | (go_at_call 260;refine(a _).mono ?_;clear a;rintro e C ⟨u,rfl,l,m⟩))
 go_ret2;exact⟨u,rfl,ZC l (by have:=g.size;simp;omega),(g.alloc _).tO m⟩
theorem readyR_ok:cr 149 #[pq r] w zz:=by
 have l:=YO h.st;have n:=h.mode
 have v:cq 91 #[pq s] w (pq d):=by
  obtain⟨g,t,p,m,Fd,Ft,Fw,Fm,o,u,k,y⟩:=h.st;exact DiskS_is w base s d g t p m Fd Ft Fw Fm o u B R.S k
 have z:cq 134 #[pq d] w (.bool false):=by
  obtain⟨g,t,p,m,Fd,Ft,Fw,Fm,o,u,k,y⟩:=h.st;have:=Ku w base d Fd R.S.D k.log.disk
  rwa [k.log.off] at this
 obtain⟨D,E⟩:=h.cells;rw[n] at l;clear n;have F:=fun(a b c e f g A i j:Value) W=>QE (P:=prog) underlying58 0 rfl isAgg3 #[ii 1,a,b,c,e,f,g,A,i,j] rfl W;go_enter func149,ntmps149
 go_wp2_with (first
  | (go_at_call 91;apply mq v)
  | (go_at_call 134;apply mq z)
  | (go_at_call 22;refine l.mono ?_;clear l;rintro e w1 ⟨rfl,C⟩))
 go_ret;exact⟨rfl,C⟩
end
section
variable (w:World) (base r s d x:Nat) (Fs Fx:List Nat) (B:Nat) (R:RS) (h:ReplicaIs w base r s d x Fs Fx B R)
include h
theorem ImageAt_st:∃ m,(∀ W,kz w W->cq 71 #[pq s] W (pq m))/\(∀ W,kz w W->cq 242 #[pq m] W B)/\B<=64:=by
 obtain⟨g,t,p,m,Fd,Ft,Fw,Fm,c,e,a,f⟩:=h.st;exact⟨m,fun W b=>ImageS_is W base s d g t p m Fd Ft Fw Fm c e B R.S (a.kO b),fun W b=>BlocksS_is W base s d g t p m Fd Ft Fw Fm c e B R.S (a.kO b),a.log.geom.few⟩
theorem QAB (k v q b c e dn:Nat) (D:Value) (z:k=1\/k=2) (o:b+max c 1<=B) (A:Option Addr) (n m:Nat) (C:D=.slice A n m):cr 150 #[pq r,.agg #[ii k,ii v,ii q,ii b,ii c,ii e,ii dn,D]] w (.bool false):=by
 subst C;obtain⟨F,p,t,G⟩:=ImageAt_st w base r s d x Fs Fx B R h;obtain⟨H,I⟩:=h.cells;have J:=h.blk.lt;obtain⟨l,u⟩:∃ l:Nat,max ((c:Nat):Int) 1=(l:Nat)/\b+l<=B:=⟨max c 1,Z,o⟩;obtain⟨u,L⟩:=u;have a:kz w (w.alloc (.cells #[ii k,ii v,ii q,ii b,ii c,ii e,ii dn,.slice A n m] 211)):=kq.alloc _;have E:=Blk.new w 211 #[ii k,ii v,ii q,ii b,ii c,ii e,ii dn,.slice A n m];have g:=(h.kO a).cells.1;clear h o;go_enter func150,ntmps150;go_wp2_with fail;obtain⟨i,M,N,j,O,P,Q,S⟩:=XC E;have y:((b:Nat):Int)+(l:Nat)<=(B:Nat):=Z;rcases z with rfl | rfl
 . refine ZT (fun w'=>cl w' w.heap.size (ii ((1:Nat):Int))/\cl w' (aq w.heap.size 3) b/\cl w' r (pq s)) 23 [[0,1,2,3,4,5,6,7,8,9,10,11,12,13,14,15,16,17,18,19,20],[21],[22]] ⟨i,j,g⟩ ?_
   simp only[PI];iterate 8 refine wG ?_
   iterate 3 (refine VQ rq ?_;simp only[Act.put,PU])
   iterate 10 refine wG ?_
   refine YB rq (fun K f=>?_);go_wp2_with (apply mq (p _ a.drew));refine f _ _ (⟨i,j,g⟩) ?_
   try simp only[Act.put,PU]
   refine YB rq (fun K f=>?_);go_wp2_with (apply mq (t _ a.drew));refine f _ _ (⟨i,j,g⟩) ?_
   try simp only[Act.put,PU]
   refine KB ?_;go_wp2_with fail;go_ret;exact⟨uq y,a.drew⟩
 refine ZT (fun w'=>cl w' w.heap.size (ii ((2:Nat):Int))/\cl w' (aq w.heap.size 3) b/\cl w' r (pq s)) 23 [[0,1,2,3,4,5,6,7,8,9,10,11,12,13,14,15,16,17,18,19,20],[21],[22]] ⟨i,j,g⟩ ?_;simp only[PI];iterate 21 refine wG ?_
 refine YB rq (fun K f=>?_);go_wp2_with (apply mq (p _ a.drew));refine f _ _ (⟨i,j,g⟩) ?_
 try simp only[Act.put,PU]
 refine YB rq (fun K f=>?_);go_wp2_with (apply mq (t _ a.drew));refine f _ _ (⟨i,j,g⟩) ?_
 try simp only[Act.put,PU]
 refine KB ?_;go_wp2_with fail;go_ret;exact⟨uq y,a.drew⟩
omit h in
theorem XAH (v q b c e dn:Nat) (A:Option Addr) (n m:Nat):cr 150 #[pq r,.agg #[ii 3,ii v,ii q,ii b,ii c,ii e,ii dn,.slice A n m]] w (.bool false):=by
 have hkA:kz w (w.alloc (.cells #[ii 3,ii v,ii q,ii b,ii c,ii e,ii dn,.slice A n m] 211)):=kq.alloc _;have hbF:=Blk.new w 211 #[ii 3,ii v,ii q,ii b,ii c,ii e,ii dn,.slice A n m];obtain⟨mx,hmx⟩:∃ mx:Int,max ((c:Nat):Int) 1=mx:=⟨_,rfl⟩;go_enter func150,ntmps150;go_wp2_with fail;obtain⟨f0,f1,f2,f3,f4,f5,f6,f7⟩:=XC hbF;refine ZT (fun w'=>cl w' w.heap.size (ii 3)) 23 [[0,1,2,3,4,5,6,7,8,9,10,11,12,13,14,15,16,17,18,19,20],[21],[22]] f0 ?_;simp only[PI];iterate 13 refine wG ?_
 iterate 8 (refine VQ rq ?_;simp only[Act.put,PU])
 refine XL rq f0 ?_;simp only[Act.put,PU];refine XL rq f0 ?_;simp only[Act.put,PU];refine KB ?_;go_wp2_with fail;go_ret;exact⟨rfl,hkA.drew⟩
theorem YBP (k j:Nat) (G:Good B R.S k j) (H:k<=50) (I:j<=100000) (o:POp) (ho:Vg B o) (J:o.k=3->o.e=R.S.st.epoch+1) (A:Option Addr) (g c:Nat) (K:Rd w A g (bys o.d)) (U:∀ y,A=some y->y.block∉Fs) :
 Calls prog 267 #[pq r,.agg #[ii o.k,ii o.b,ii o.c,ii o.e,.slice A g c]] w fun e w'=>e=.returned zz/\∃ O S',StoreAt w' base s d O B S'/\Does B R.S o S'/\Keep Fs w w'/\Grow w Fs O:=by
 obtain⟨P,i,E,F,od⟩:=o;simp only at J K ⊢;have a1:od.length=g:=uq K.1;have a:kz w (w.alloc (.cells #[ii P,ii i,ii E,ii F,.slice A g c] 95)):=kq.alloc _;have V:=Blk.new w 95 #[ii P,ii i,ii E,ii F,.slice A g c];have l:=h.st.kO a.drew;have L:=h.mode;have M:=(h.kO a).cells.1;obtain⟨o0,Q,W,X,Y⟩:=QI V;rcases ho with⟨f,m,p,N⟩ | ⟨f,m,p,N⟩ | ⟨f,m,p⟩
 . simp only at f m p N
   subst f;obtain⟨b,rfl⟩:∃ b:Nat,i=b:=⟨i.toNat,Z⟩;obtain rfl:g=64:=Z;have t:=ZAz l G H I L b Z c od (K.keep a.drew) U;clear h l;go_enter func267,ntmps267;go_wp2_with fail;refine ZT (fun w'=>cl w' r (pq s)/\cl w' (aq w.heap.size 1) b/\cl w' (aq w.heap.size 4) (.slice A 64 c)) 8 [[0,1,2,3,4,5,6,7]] ⟨M,Q,Y⟩ ?_;simp only[PI];iterate 8 refine wG ?_
   refine KB ?_;go_wp2_with (apply t.mono;rintro e S ⟨rfl,F',S',u,v,z,C⟩);go_ret;exact⟨rfl,F',S',u,.inl ⟨rfl,uq v⟩,a.drew.zero.trans z (fun x D=>.inl D),C.keep a.drew⟩
 . simp only at f m p N
   subst f;obtain⟨b,rfl⟩:∃ b:Nat,i=b:=⟨i.toNat,Z⟩;obtain⟨n,rfl⟩:∃ n:Nat,E=n:=⟨E.toNat,Z⟩;have t:=YBV l G H I L b n Z Z;clear h l;go_enter func267,ntmps267;go_wp2_with fail;refine ZT (fun w'=>cl w' r (pq s)/\cl w' (aq w.heap.size 1) b/\cl w' (aq w.heap.size 2) n) 8 [[0,1,2,3,4,5,6,7]] ⟨M,Q,W⟩ ?_;simp only[PI];iterate 8 refine wG ?_
   refine KB ?_;go_wp2_with (apply t.mono;rintro e S ⟨rfl,F',S',u,v,z,C⟩);go_ret;exact⟨rfl,F',S',u,.inr (.inl ⟨rfl,uq v⟩),a.drew.zero.trans z (fun x D=>.inl D),C.keep a.drew⟩
 simp only at f m p;subst f;have T:=J rfl;obtain⟨e,rfl⟩:∃ e:Nat,F=e:=⟨F.toNat,Z⟩;have t:=ZBW l G H I L e Z;have a0:=JB T;clear h l J T;go_enter func267,ntmps267;go_wp2_with fail;refine ZT (fun w'=>cl w' r (pq s)/\cl w' (aq w.heap.size 3) (e:Nat)) 6 [[0,1,2,3,4,5]] ⟨M,X⟩ ?_;simp only[PI];iterate 6 refine wG ?_
 refine KB ?_;go_wp2_with (apply t.mono;rintro e S ⟨rfl,F',S',u,v,z,C⟩);go_ret;exact⟨rfl,F',S',u,.inr (.inr ⟨rfl,JA a0,uq v⟩),a.drew.zero.trans z (fun x D=>.inl D),C.keep a.drew⟩
theorem VAu (o:POp) (g:o.k=3) (ho:Vg B o) (i:o.e≠R.S.st.epoch+1) (l:R.S.st.epoch<=1000000000) (A:Option Addr) (d c:Nat) :
 cr 267 #[pq r,.agg #[ii o.k,ii o.b,ii o.c,ii o.e,.slice A d c]] w (ii 1):=by
 obtain⟨u,j,k,b,od⟩:=o;simp only at i g ⊢;subst g;have f:kz w (w.alloc (.cells #[ii 3,ii j,ii k,ii b,.slice A d c] 95)):=kq.alloc _;have m:=Blk.new w 95 #[ii 3,ii j,ii k,ii b,.slice A d c];have n:=(h.kO f).cells.1;obtain⟨v,y,z,p,C⟩:=QI m
 obtain⟨e,rfl⟩:∃ e:Nat,b=e:=by
  rcases ho with⟨a,_⟩ | ⟨a,_⟩ | ⟨_,a,_⟩
  . simp at a
  . simp at a
  exact⟨b.toNat,by simp only at a;omega⟩
 have t:=VBH (h.st.kO f.drew) h.mode e Z l;clear h i;go_enter func267,ntmps267;go_wp2_with fail;refine ZT (fun w'=>cl w' r (pq s)/\cl w' (aq w.heap.size 3) (e:Nat)) 6 [[0,1,2,3,4,5]] ⟨n,p⟩ ?_;simp only[PI];iterate 6 refine wG ?_
 refine KB ?_;go_wp2_with (apply mq t);go_ret;exact⟨rfl,f.drew⟩
end
theorem QAv (st:PSt) (o:POp):(QAW st o).mode=st.mode/\(QAW st o).view=st.view/\(QAW st o).seq=st.seq+1:=by
 unfold QAW
 split <;> simp
def JBa (w:World) (base r s d x:Nat) (Fs Fx:List Nat) (B:Nat) (R:RS) (k j:Nat) (e:Ending) (w':World):Prop:=
 ∃ Fs' Fx' R' er,ReplicaIs w' base r s d x Fs' Fx' B R'/\Ran B R R' er/\Good B R'.S (k+QH R.sl) (j+2*QH R.sl)/\(∀ q∈R'.sl,q.is=true->Vg B q.o)/\Keep (YU r Fs Fx) w w'/\Grow w (YU r Fs Fx) (YU r Fs' Fx') /\
   ((er=0/\∃ u,e=.returned (.tuple #[u,zz])/\w'.ownsRow w.heap.size 5 1 u 25 (bys (QK 8 R'.S.st.view R'.S.st.seq 0 0 R'.S.st.epoch R'.S.st.done [])))\/(er=1/\e=.returned (.tuple #[zn,ii 1])))
structure OnInv (w:World) (base r s d x:Nat) (Fs Fx:List Nat) (B:Nat) (R:RS) (k j:Nat) (Fs1 Fx1:List Nat) (R1:RS) (k1 j1 bo:Nat) (A:Option Addr) (c:Nat) (wr:World):Prop where
 rep:ReplicaIs wr base r s d x Fs1 Fx1 B R1
 ran:∀ R' e,Ran B R1 R' e->Ran B R R' e
 good:Good B R1.S k1 j1
 kb:k1+QH R1.sl<=k+QH R.sl
 jb:j1+2*QH R1.sl<=j+2*QH R.sl
 nb:R1.next+QH R1.sl=R.next+QH R.sl
 ops:∀ q∈R1.sl,q.is=true->Vg B q.o
 keep:Keep (YU r Fs Fx) w wr
 grow:Grow w (YU r Fs Fx) (YU r Fs1 Fx1)
 blk:Blk wr bo 95 #[ii R1.cur.o.k,ii R1.cur.o.b,ii R1.cur.o.c,ii R1.cur.o.e,.slice A R1.cur.o.d.length c]
 val:R1.cur.v=.slice A R1.cur.o.d.length c
 bnew:bo∉YU r Fs1 Fx1
 bge:w.heap.size<=bo
theorem RS.cur_get (R:RS) (h:1<=R.sl.length):∃ hi:R.next % R.sl.length<R.sl.length,R.cur=R.sl[R.next % R.sl.length]:=by
 have hi:R.next % R.sl.length<R.sl.length:=CP _ h;exact⟨hi,by unfold RS.cur;rw[AB,AC hi];rfl⟩
def QBE (x:Nat) (w:World):Nat:=match w.cell? (aq x 1) with | some (.int _ n)=>n.toNat | _=>0
theorem ZAG {w:World} {base x:Nat} {L:Value} {F:List Nat} {sl:List PSlot} (h:WinIs w base x L F n sl):QBE x w=n:=by
 unfold QBE;rw[h.cells.2];simp
theorem ZBo {w:World} {base r s d x:Nat} {Fs Fx:List Nat} {B:Nat} {R:RS} (h:ReplicaIs w base r s d x Fs Fx B R) {k j:Nat} (hg:Good B R.S k j) (hk:k+QH R.sl<=50) (hj:j<=10000) (hn:R.next<=1000000) (b4:∀ q∈R.sl,q.is=true->Vg B q.o) :
 Calls prog 154 #[pq r] w (JBa w base r s d x Fs Fx B R k j):=by
 have bo:QH R.sl<=16:=by
  obtain⟨L,hw⟩:=h.win;exact AA (KAi _) hw.few
 have ak:Calls prog 266 #[pq x] w fun e w'=>∃ q,R.cur=q/\e=.returned (.tuple #[.agg #[.int .i64 q.o.k,.int .i64 q.o.b,.int .i64 q.o.c,.int .i64 q.o.e,q.v],.bool q.is])/\(∃ A c,q.v=.slice A q.o.d.length c)/\kz w w':=by
  obtain⟨L,hw⟩:=h.win;exact PeekW_is w base x L Fx R.next R.sl hw
 obtain⟨al,a2⟩:=h.cells;go_enter func154,ntmps154
 go_wp2_with (
  (refine ak.mono ?_)
  clear ak;rintro e w1 ⟨q,J,rfl,⟨A,c,a8⟩,a3⟩;rw[a8])
 have a9:kz w (w1.alloc (.cells #[.int .i64 q.o.k,.int .i64 q.o.b,.int .i64 q.o.c,.int .i64 q.o.e,.slice A q.o.d.length c] 95)):=a3.alloc _
 have h0:OnInv w base r s d x Fs Fx B R k j Fs Fx R k j w1.heap.size A c (w1.alloc (.cells #[.int .i64 q.o.k,.int .i64 q.o.b,.int .i64 q.o.c,.int .i64 q.o.e,.slice A q.o.d.length c] 95)):=by
  subst J;exact⟨h.kO a9,fun _ _ h=>h,hg,AG _,AG _,rfl,b4,a9.zero,Grow.refl _ _,Blk.new _ _ _,a8,fun m=>by have:=h.lt _ m;have:=a3.size;omega,a3.size⟩
 have t:R.cur.is=q.is:=by rw[J]
 go_loopw [4,5,6] (fun a b _ wr=>∃ n o f T U V v a2,a=.pointer (some (aq V 0))/\b=.bool f.cur.is/\OnInv w base r s d x Fs Fx B R k j n o f T U V v a2 wr) (fun _ _ _ wr=>R.next+QH R.sl-QBE x wr)
 case atStart=>exact⟨Fs,Fx,R,k,j,w1.heap.size,A,c,rfl,by rw[t],h0⟩
 clear h0 a9 al a2 a8 t a3 J;obtain⟨n,o,f,T,U,V,v,cc,rfl,rfl,g⟩:=hrel;obtain⟨al,a2⟩:=g.rep.cells;obtain⟨o0,o1,o2,o3,o4⟩:=QI g.blk;have C:=g.good;have bp:=C.seq;have bq:=C.epoch;have b5:=C.done;have br:=g.kb;have bs:=g.jb;have bt:=g.nb;obtain⟨q,K⟩:∃ q,f.cur=q:=⟨_,rfl⟩;have a4:=g.val;have aa:=g.blk;rw[K] at o0 o1 o2 o3 o4 a4 aa ⊢;have ab:=JB K;by_cases M:q.is=true
 . obtain⟨W,N⟩:=g.rep.win
   obtain⟨hi,ac⟩:=f.cur_get N.pos;have a5:q∈f.sl:=by rw[<- K,ac];exact AQ _
   have ho:=g.ops _ a5 M;have am:=N.dat _ a5;have b6:∀ y,v=some y->y.block∉n:=fun y i m=>g.rep.ap _ m (N.inQ a5 _ (by rw[a4,i];simp[Value.ownBlock]));have a6:=YAW hi (by rw[<- ac,K];exact M);have b7:V∉n:=fun m=>g.bnew (by simp[YU,m]);have b8:V∉o:=fun m=>g.bnew (by simp[YU,m]);have J:(f.sl.getD (f.next % f.sl.length) PSlot.none_).is=true:=by show f.cur.is=true;rw[K];exact M
   clear K ac a5;obtain⟨qv,⟨O,X,Y,D,od⟩,qi⟩:=q;simp only at o0 o1 o2 o3 o4 a4 aa M am ⊢;subst M;subst a4;have a7:=g.rep;by_cases P:O=3/\D≠f.S.st.epoch+1
   . have E:=VAu wr base r s d x n o B f g.rep ⟨O,X,Y,D,od⟩ P.1 ho P.2 Z v od.length cc
     have b9:=JB P;have ad:=JB g;clear P g;simp only at E
     go_wp2_with (first
      | (go_at_call 267
         refine E.mono ?_;clear E;rintro e w2 ⟨rfl,l⟩;have an:=ZBA w2 base x W o f.next f.sl (N.kO l) J
         obtain⟨d0,d1⟩:=(a7.kO l).cells)
      | (go_at_call 268
         refine an.mono ?_;clear an;rintro e F ⟨rfl,a0,Q,G,a1⟩))
     go_ret2;have g:=JA ad;obtain⟨ba,ae⟩:=JA b9;have S:=JA ab;have H:=(g.rep.kO l).setWin ⟨W,Q⟩ G (fun y i=>.inl (a1 y i));refine⟨n,a0,⟨f.S,f.next,f.cut⟩,1,H,g.ran _ _ (Ran.bad (by rw[S]) (by rw[S];exact ba) (by rw[S];exact ae)),C.mono Z Z,?_,?_,?_,.inr ⟨rfl,rfl⟩⟩
     . intro q I t
       rcases AW I with I | rfl
       . exact g.ops q I t
       cases t
     . exact(g.keep.tO l).trans G (fun y i=>g.grow y (by simp[YU,i]))
     intro y i;apply g.grow y;simp only[YU,AM,AD] at i ⊢;rcases i with i | i | i
     . exact .inl i
     . exact .inr (.inl i)
     exact .inr (.inr (a1 y i))
   have E:=YBP wr base r s d x n o B f g.rep T U C Z Z ⟨O,X,Y,D,od⟩ ho (fun Q=>by by_cases he:D=f.S.st.epoch+1;exact he;exact absurd ⟨Q,he⟩ P) v od.length cc (Rd.of_own am) b6;have ad:=JB g;clear P g;simp only at E
   go_wp2_with (first
    | (go_at_call 267
       refine E.mono ?_;clear E;rintro e w2 ⟨rfl,ao,ap,bb,ar,l,au⟩;obtain⟨bc,av⟩:=ar.good ho C Z Z;obtain⟨bd,bf,_⟩:=QAv f.S.st ⟨O,X,Y,D,od⟩;have aw:=a7.setSt bb l au (by rw[av,bd];exact a7.mode) (by rw[av,bf]);have bg:=N.keep l a7.ap.symm;have ax:=ZBm w2 base x W o f.next f.sl bg J Z;have ae:=aa.keep l b7
       obtain⟨d0,d1⟩:=aw.cells)
    | (go_at_call 269
       refine ax.mono ?_;clear ax;rintro e F ⟨_,_,rfl,a0,Q,G,a1⟩;have H:=aw.setWin ⟨W,Q⟩ G (fun y i=>.inl (a1 y i));have ay:=ae.keep G b8;have bu:=ay.lt;obtain⟨o0,o1,o2,o3,o4⟩:=QI ay;obtain⟨d0,d1⟩:=H.cells;have bv:=H.blk.lt;have af:kz F (F.alloc (.cells #[ii O,ii X,ii Y,ii D,.slice v od.length cc] 95)):=kq.alloc _;have az:=PeekW_is _ base x W a0 (f.next+1) (f.sl.set (f.next % f.sl.length) PSlot.none_) (Q.kO af)
       have p:=Blk.new F 95 #[ii O,ii X,ii Y,ii D,.slice v od.length cc])
    | (go_at_call 266
       refine az.mono ?_;clear az;rintro e w4 ⟨q,bh,rfl,⟨ag,c4,b0⟩,ah⟩;rw[b0];replace p:=p.kO ah;obtain⟨z0,z1,z2,z3,z4⟩:=QI p;have f0:=p.frozen 0;have f1:=p.frozen 1;have f2:=p.frozen 2;have f3:=p.frozen 3;have f4:=p.frozen 4))
   have h5:=p.put5 (.int .i64 q.o.k) (.int .i64 q.o.b) (.int .i64 q.o.c) (.int .i64 q.o.e) (.slice ag q.o.d.length c4);have ai:=Keep.put5 w4 F.heap.size (.int .i64 q.o.k) (.int .i64 q.o.b) (.int .i64 q.o.c) (.int .i64 q.o.e) (.slice ag q.o.d.length c4);unfold put5 at h5 ai;have aj:(⟨ap,f.next+1,f.cut⟩:RS).cur=q:=bh
   have bi:Apart (YU r ao a0) [F.heap.size]:=fun y i m=>by
    simp at m;have:=H.lt y i;omega
   have b1:=(H.kO (af.tO ah)).keep ai bi;have g:=JA ad;have S:=JA ab;have bw:=l.size;have bx:=G.size;have bz:=g.keep.size;have bj:=ZAG N;go_roundw
   case rel=>
    refine⟨ao,a0,⟨ap,f.next+1,f.cut⟩,T+1,U+2,F.heap.size,ag,c4,rfl,by rw[aj],⟨b1,fun bk e h=>g.ran bk e (Ran.step (by rw[S]) (by rw[S];exact ar) h),bc,?_,?_,?_,?_,?_,?_,?_,?_,?_,?_⟩⟩
    . show T+1+QH f.cut<=_
      have:QH f.cut+1=QH f.sl:=a6;omega
    . show U+2+2*QH f.cut<=_
      have:QH f.cut+1=QH f.sl:=a6;omega
    . show f.next+1+QH f.cut=_
      have:QH f.cut+1=QH f.sl:=a6;omega
    . intro bl I t
      rcases AW I with I | rfl
      . exact g.ops bl I t
      cases t
    . refine(((g.keep.trans l (fun y i=>g.grow y (by simp[YU,i]))).trans G (fun y i=>g.grow y (by simp[YU,i]))).tO (af.tO ah)).trans ai (fun y i=>.inr ?_)
      simp at i;omega
    . intro y i
      simp only[YU,AM,AD] at i;rcases i with i | i | i
      . exact g.grow y (by simp[YU,i])
      . rcases au y i with i | i
        . exact g.grow y (by simp[YU,i])
        exact .inr Z
      exact g.grow y (by simp[YU,a1 y i])
    . rw[aj];exact h5
    . rw[aj];exact b0
    . exact fun m=>by have:=H.lt _ m;omega
    omega
   case measure=>
    obtain⟨c2,bm⟩:=b1.win;have bn:=ZAG bm;have:QH f.cut+1=QH f.sl:=a6;simp only[bj];refine Nat.lt_of_le_of_lt (Ap (congrArg (fun z=>R.next+QH R.sl-z) bn)) ?_;show R.next+QH R.sl-(f.next+1)<R.next+QH R.sl-f.next;omega
 have b2:q.is=false:=uq M;rw[b2];have b3:=VAq wr base r s d x n o B f g.rep Z Z b5;go_wp2_with (refine b3.mono ?_;clear b3;rintro e w2 ⟨u,rfl,hu,l⟩);go_ret2;exact⟨n,o,f,0,g.rep.kO l,g.ran _ _ (Ran.stop (by rw[JA ab];exact b2)),C.mono Z Z,g.ops,g.keep.tO l,g.grow,.inl ⟨rfl,u,rfl,ZC hu g.keep.size⟩⟩
theorem KAU {k v s b c e d:Nat} {a:List UInt8} (i:FrMay k v s b c e d a) {A:Option Addr} (cp:Nat) {w:World} (ha:Rd w A n (bys (QK k v s b c e d a))) :
 Calls prog 148 #[.slice A n cp] w fun r w'=>∃ f g,r=.returned (.tuple #[.agg #[ii k,ii v,ii s,ii b,ii c,ii e,ii d,.slice f a.length g],zz])/\w'.ownsRow w.heap.size 5 1 (.slice f a.length g) a.length (bys a)/\kz w w':=by
 have p:=i.bounds;have t:n=25+a.length:=by have:=ha.1;simpa using this.symm
 apply (ZAn cp _ ha Z Z).mono;rintro r w' ⟨l,j⟩;have m:QW (QK k v s b c e d a)=⟨k,v,s,b,c,e,d,a⟩:=ZAN k v s b c e d a Z Z Z Z Z Z Z;rw[m] at j;rcases j with⟨_,_,u,rfl,h⟩ | ⟨o,_⟩
 . have hlen:(QK k v s b c e d a).length-25=a.length:=sq
   rw[hlen] at h;obtain⟨f,g,rfl,_⟩:=ZB h;exact⟨f,g,rfl,h,l⟩
 exact absurd ⟨i,rfl⟩ o
theorem VBq {w:World} {base r s d x:Nat} {Fs Fx:List Nat} {B:Nat} {R:RS} (h:ReplicaIs w base r s d x Fs Fx B R) (hbase:base<=w.heap.size) {k b c e m:Nat} (fs:Nat) (xs:List UInt8) {A:Option Addr} (cp:Nat)
 (ha:Rd w A (25+m) (bys (QK k R.S.st.view fs b c e 0 xs))) (ho:OpMay k b c e m) (hlen:xs.length=m) (hfor:b+max c 1<=B\/k=3) (hfs:1<=fs/\fs<=2147483647) (v:Ending->World->Prop)
 (U:∀ g a f,kz w g->g.ownsRow w.heap.size 5 1 (.slice a m f) m (bys xs)->Calls prog 153 #[pq x,fs,.agg #[ii k,ii b,ii c,ii e,.slice a m f]] g fun y C=>
   (y=.returned zz/\Calls prog 154 #[pq r] C (fun e w'=>∃ A n c z,e=.returned (.tuple #[.slice A n c,ii z])/\v e w')) \/
   (y=.returned (ii 9)/\Calls prog 155 #[pq r] C (fun e w'=>∃ A n c,e=.returned (.tuple #[.slice A n c,zz])/\v (.returned (.tuple #[.slice A n c,ii 9])) w')) \/
   (y=.returned (ii 10)/\v (.returned (.tuple #[zn,ii 10])) C)) :
 Calls prog 45 #[pq r,.slice A (25+m) cp] w v:=by
 have V:=h.view;have D:FrMay k R.S.st.view fs b c e 0 xs:=ho.fr V hfs hlen;have E:=KAU D cp ha;have F:=fun a f W (hr:Rd W a m (bys xs))=>QBo f hr (by have:=D.bounds;omega) (by rcases ho with⟨h,_⟩ | ⟨h,_⟩ | ⟨h,_⟩ <;> omega) (by rcases ho with⟨h,_⟩ | ⟨h,_⟩ | ⟨h,_⟩ <;> omega) D;have X:=fun W (l:kz w W)=>readyR_ok W base r s d x Fs Fx B R (h.kO l)
 have G:∀ a f W,kz w W->cr 150 #[pq r,.agg #[ii k,ii R.S.st.view,ii fs,ii b,ii c,ii e,ii (0:Nat),.slice a m f]] W (.bool false):=fun a f W l=>by
  rcases hfor with Y | rfl
  . rcases ho with⟨H,_⟩ | ⟨H,_⟩ | ⟨H,h2,h3,h4⟩
    . exact QAB W base r s d x Fs Fx B R (h.kO l) k R.S.st.view fs b c e 0 _ Z Y a m f rfl
    . exact QAB W base r s d x Fs Fx B R (h.kO l) k R.S.st.view fs b c e 0 _ Z Y a m f rfl
    subst H;exact XAH W r R.S.st.view fs b c e 0 a m f
  exact XAH W r R.S.st.view fs b c e 0 a m f
 have I:=fun W (l:kz w W)=>YO (h.kO l).st;have J:=fun W (l:kz w W)=>(h.kO l).cells;rw[hlen] at E;unfold frv at F;have a5:¬ ((k:Nat):Int)=9:=by have:=ho;rcases this with⟨h,_⟩ | ⟨h,_⟩ | ⟨h,_⟩ <;> omega
 have am:(((k:Nat):Int) == 9)=false:=uq a5;clear h ha D V hfor;have an:=JB ho;clear ho;generalize R.S.st=st at *;obtain⟨mode,view,ao,seq,ap,ar,au⟩:=st;simp only at E F G I;have av:=fun(a6 a7 a8 a9 aa ab ac ad ae af:Value) W=>QE (P:=prog) underlying58 1 rfl isAgg3 #[a6,a7,a8,a9,aa,ab,ac,ad,ae,af] rfl W;go_enter func45,ntmps45
 go_wp2_with (first
  | (go_at_call 148
     refine E.mono ?_;clear E;rintro e1 w1 ⟨a,f,rfl,hu,ag⟩;have o:=Blk.new w1 211 #[ii k,ii view,ii fs,ii b,ii c,ii e,ii (0:Nat),.slice a m f];have i:kz w (w1.alloc (.cells #[ii k,ii view,ii fs,ii b,ii c,ii e,ii (0:Nat),.slice a m f] 211)):=ag.alloc _
     have u:=KD hu (.cells #[ii k,ii view,ii fs,ii b,ii c,ii e,ii (0:Nat),.slice a m f] 211))
  | (go_at_call 149
     refine(X _ i).mono ?_;clear X;rintro e2 w2 ⟨rfl,L⟩;replace o:=o.kO L;replace i:=i.tO L;replace u:=QB u L
     obtain⟨f0,M,f2,f3,f4,f5,f6,f7⟩:=XC o)
  | (go_at_call 150
     refine(G _ _ _ i).mono ?_;clear G;rintro e3 w3 ⟨rfl,N⟩;replace o:=o.kO N;replace i:=i.tO N;replace u:=QB u N;obtain⟨f0,M,f2,f3,f4,f5,f6,f7⟩:=XC o))
 have r0:=(J _ i).1;refine ZT (fun w'=>cl w' (aq w1.heap.size 1) view/\cl w' r (pq s)) 8 [[0,1,2,3,4,5],[6,7]] ⟨M,r0⟩ ?_;simp only[PI];iterate 6 refine wG ?_
 refine YB rq (fun K ah=>?_)
 go_wp2_with (
  refine(I _ i.drew).mono ?_;clear I;rintro e4 w4 ⟨rfl,O⟩;have Q:=i.drew.tO O;have S:=o.drew.kO O;have ai:=QB u (kq.drew.tO O))
 refine ah _ _ (⟨(XC S).2.1,(J _ Q).1⟩) ?_;iterate 1 refine wG ?_
 refine KB ?_;obtain⟨g0,g1,g2,g3,g4,g5,g6,g7⟩:=XC S;have a0:=F a f w4 (Rd.of_own ai)
 go_wp2_with (go_at_call 152
              refine a0.mono ?_;clear a0;rintro y g ⟨ua,rfl,a1,a2⟩;obtain⟨p,t,rfl,aw,_⟩:=ZB a1)
 have a3:=(Q.tO a2).alloc (.cells #[ii k,ii b,ii c,ii e,.slice p m t] 95);have aj:=(S.kO a2).kO (kq.alloc (.cells #[ii k,ii b,ii c,ii e,.slice p m t] 95));have ak:=Blk.new g 95 #[ii k,ii b,ii c,ii e,.slice p m t];obtain⟨o0,o1,o2,o3,o4⟩:=QI ak;have r1:=(J _ a3).2;have s2:=(XC aj).2.2.1;have a4:=U _ p t a3.drew (QB (ZC a1 Q.size) ((kq.alloc (.cells #[ii k,ii b,ii c,ii e,.slice p m t] 95)).drew));clear U g0 g1 g2 g3 g4 g5 g6 g7 f0 M f2 f3 f4 f5 f6 f7;refine ZT (fun w'=>cl w' (aq r 1) (pq x)/\cl w' (aq w1.heap.size 2) fs/\cl w' (aq g.heap.size 0) (ii k)/\cl w' (aq g.heap.size 1) (ii b)/\cl w' (aq g.heap.size 2) (ii c)/\cl w' (aq g.heap.size 3) (ii e)/\cl w' (aq g.heap.size 4) (.slice p m t)) 7 [[0,1,2,3,4,5,6]] ⟨r1,s2,o0,o1,o2,o3,o4⟩ ?_;simp only[PI];iterate 7 refine wG ?_
 refine KB ?_
 go_wp2_with (go_at_call 153
              refine a4.mono ?_;clear a4;rintro e6 C j;rcases j with⟨rfl,j⟩ | ⟨rfl,j⟩ | ⟨rfl,j⟩)
 . go_wp2_with (refine j.mono ?_
                clear j;rintro e7 w7 ⟨al,n7,c7,z7,rfl,T⟩)
   exact T
 . go_wp2_with (refine j.mono ?_
                clear j;rintro e7 w7 ⟨al,n7,c7,rfl,T⟩)
   exact T
 go_wp2
 exact j
theorem Vx {sl:List PSlot} {i:Nat} (hi:i<sl.length) (h:(sl.getD i PSlot.none_).is=false) (q:PSlot) (b:q.is=true):QH (sl.set i q)=QH sl+1:=by
 unfold QH;have c:sl[i].is=false:=by simpa [AB,hi] using h
 have:=List.countP_set (p:=(·.is)) (l:=sl) (i:=i) (a:=q) hi;rw[this,AL (by simp[c]),AP b];rfl
section
variable (w:World) (base r s d x:Nat) (Fs Fx:List Nat) (B:Nat) (R:RS) (h:ReplicaIs w base r s d x Fs Fx B R) (hbase:base<=w.heap.size) (k b c e m fs:Nat) (xs:List UInt8) (A:Option Addr) (cp:Nat)
 (ha:Rd w A (25+m) (bys (QK k R.S.st.view fs b c e 0 xs))) (ho:OpMay k b c e m) (hlen:xs.length=m) (hfor:b+max c 1<=B\/k=3) (hfs:1<=fs/\fs<=2147483647)
include h hbase ha ho hlen hfor hfs
theorem VBV (i j:Nat) (U:Good B R.S i j) (hk:i+QH R.sl<=49) (V:j<=10000) (W:R.next<=1000000) (X:∀ q∈R.sl,q.is=true->Vg B q.o) (Y:R.next<=fs) (a0:fs<R.next+R.sl.length) (E:(R.sl.getD (fs % R.sl.length) PSlot.none_).is=false) (a1:Vg B ⟨k,b,c,e,xs⟩) :
 Calls prog 45 #[pq r,.slice A (25+m) cp] w fun en w'=>
  ∃ v,JBa w base r s d x Fs Fx B ⟨R.S,R.next,R.sl.set (fs % R.sl.length) ⟨v,⟨k,b,c,e,xs⟩,true⟩⟩ i j en w':=by
 refine VBq h hbase fs xs cp ha ho hlen hfor hfs _ ?_;intro w5 l n o F;obtain⟨L,G⟩:=h.win;have hi:fs % R.sl.length<R.sl.length:=CP _ G.pos;subst hlen;have a2:=ZC F hbase;apply (ZBl w5 base x L Fx R.next R.sl (G.kO o) fs Y a0 hfs.2 E k b c e l n xs a2).mono;rintro e5 w6 ⟨rfl,F',a3,H,I⟩;refine .inl ⟨rfl,?_⟩;have p:∀ z∈(Value.slice l xs.length n).ownBlock.toList,w.heap.size<=z:=fun z hz=>(own_mem F hz).1
 have a4:=(h.kO o).setWin ⟨L,a3⟩ H (fun y a=>by
  rcases I y a with f | f
  . exact .inl f
  refine .inr ⟨fun hm=>?_,?_⟩
  . have:=p y f;have:=h.st.lt y hm;omega
  have:=p y f;have:=h.blk.lt;omega)
 have a5:=Vx hi E ⟨.slice l xs.length n,⟨k,b,c,e,xs⟩,true⟩ rfl;have J:Keep (YU r Fs Fx) w w6:=o.zero.trans H (fun y a=>.inl (by simp[YU,a]));refine(ZBo a4 U (by simp only[a5];omega) V W ?_).mono ?_
 . intro q t a6
   rcases AW t with t | rfl
   . exact X q t a6
   exact a1
 rintro e7 w7 ⟨C,D,K,er,f,M,N,O,h5,h6,h7⟩;have a7:=J.size
 have P:Grow w (YU r Fs Fx) (YU r Fs F'):=by
  intro y a;simp only[YU,AM,AD] at a ⊢;rcases a with a | a | a
  . exact .inl (.inl a)
  . exact .inl (.inr (.inl a))
  rcases I y a with g | g
  . exact .inl (.inr (.inr g))
  exact .inr (p y g)
 have Q:Keep (YU r Fs Fx) w w7:=J.trans h5 P
 have S:Grow w (YU r Fs Fx) (YU r C D):=fun y a=>by
  rcases h6 y a with g | g
  . exact P y g
  exact .inr Z
 rcases h7 with⟨rfl,u,rfl,T⟩ | ⟨rfl,rfl⟩
 . obtain⟨a8,c7,rfl,_⟩:=ZB T
   exact⟨a8,_,c7,_,rfl,_,C,D,K,0,f,M,N,O,Q,S,.inl ⟨rfl,_,rfl,ZC T a7⟩⟩
 exact⟨none,0,0,_,rfl,_,C,D,K,1,f,M,N,O,Q,S,.inr ⟨rfl,rfl⟩⟩
end
theorem WinIs.down {w:World} {b1 b x next:Nat} {L:Value} {F:List Nat} {sl:List PSlot} (h:WinIs w b x L F next sl) (a:b1<=b):WinIs w b1 x L F next sl:=
 ⟨h.blk,ZC h.row a,fun q c=>ZC (h.dat q c) a,h.foot,AA a h.base,h.pos,h.few,h.zero,h.nb⟩
section
variable (w:World) (base s d:Nat) (Fs:List Nat) (B:Nat) (S:PS) (h:StoreAt w base s d Fs B S) (hs:S.st.seq<=1000000)
include h hs
theorem ZBk (m:Nat) (u:1<=m) (v:m<=16) (k:S.st.mode=1) (z:1<=S.st.view/\S.st.view<=2147483647) (hbase:base<=w.heap.size) :
 Calls prog 43 #[pq s,m] w fun e w'=>∃ r x Fx,e=.returned (pq r)/\ReplicaIs w' base r s d x Fs Fx B ⟨S,S.st.seq+1,XH m⟩/\kz w w'/\(∀ y∈YU r Fs Fx,y∈Fs\/w.heap.size<=y):=by
 have i:=YO h
 have l:∀ b x F r,kz w b->WinAt b w.heap.size x F (S.st.seq+1) (XH m)->r=b.heap.size->ReplicaIs (b.alloc (.cells #[pq s,pq x] 209)) base r s d x Fs F B ⟨S,S.st.seq+1,XH m⟩/\(∀ y∈YU r Fs F,y∈Fs\/w.heap.size<=y):=by
  intro b x F r g A C;subst C;have n:=(Keep.refl [] b).alloc (.cells #[pq s,pq x] 209);obtain⟨L,c⟩:=A;have o:=c.ge;have D:=c.lt;refine⟨⟨Blk.new _ _ _,h.kO (g.tO n),⟨L,(c.down hbase).kO n⟩,fun y a f=>?_,fun f=>?_,fun f=>?_,?_,k,z⟩,?_⟩
  . have:=h.lt y a;have:=o y f;omega
  . have:=h.lt _ f;have:=g.size;omega
  . have:=D _ f;omega
  . have:=g.size;omega
  intro y a;simp only[YU,AM,AD] at a;rcases a with a | a | a
  . exact .inr (by have:=g.size;omega)
  . exact .inl a
  exact .inr (o y a)
 generalize X:S.st=st at *;obtain⟨mode,view,Y,seq,a0,a1,a2⟩:=st;simp only at i hs l k ⊢;have j:=fun W=>ZBK m (seq+1) u v Z W;rw[BO] at j;have a3:=fun(E G H I J K M N O Q:Value) W=>QE (P:=prog) underlying58 3 rfl isAgg3 #[E,G,H,I,J,K,M,N,O,Q] rfl W;go_enter func43,ntmps43
 go_wp2_with (first
  | (go_at_call 22;refine i.mono ?_;clear i;rintro e w1 ⟨rfl,p⟩)
  | (go_at_call 146;refine(j _).mono ?_;clear j;rintro e b ⟨x,rfl,F,R,T⟩))
 go_ret;have t:=p.tO T;obtain⟨L,c⟩:=R;obtain⟨U,V⟩:=l b x F _ t ⟨L,c.down p.size⟩ rfl;exact⟨_,x,F,rfl,U,t.alloc _,V⟩
end
section
variable (w:World) (base r s d x:Nat) (Fs Fx:List Nat) (B:Nat) (R:RS) (h:ReplicaIs w base r s d x Fs Fx B R)
include h
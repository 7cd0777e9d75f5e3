/- Lemmas of the proof, with their conditions. -/
import Derived.Test.YtfedaknhecbehaaGreatM30
import Derived.Test.YtfedaknhecbehaaGreatM21
namespace Go.Proofs.YtfedaknhecbehaaGreat
open Tryz Go.RowKit Go.Shelf
variable {I Bv:Value} {us:List (Nat×Nat)} {spare:Bool} {t:TypeId} {D D':PDisk} {n L L' N:Nat}
set_option linter.all false
set_option maxHeartbeats 8000000
set_option maxRecDepth 100000
theorem ZAP {w:World} {base s d:Nat} {F:List Nat} {B:Nat} {S:PS} (h:StoreAt w base s d F B S) {k j:Nat} (hg:Good B S k j) {ib i:Nat} {aa:List Nat} {I:PIdl} (a:IdlAt w ib i aa I) (l:YE B S=I.base) (ho:XF B S=I.over) (he:S.st.epoch=I.ep) (K:S.st.seq=I.seq) (L:S.st.done=I.done) :
 cr 50 #[pq s,pq i] w (.bool true):=by
 have v:=JP h;have M:=fun W (f:kz w W) b l=>XBQ W base s d F B S (h.kO f) k j hg b l;have y:=fun W (f:kz w W) b l=>KBP W base s d F B S (h.kO f) k j hg b l;obtain⟨bv,ov,bs,os,a⟩:=a;have hlen:(YE B S).length=B:=by unfold YE;rw[CJ];exact hg.bl
 have N:bs.length=B:=by rw[a.blen,<- l,hlen]
 have ab:os.length=B:=by rw[a.olen,<- ho];exact hg.overLen
 have al:=hg.b64;have h1:=hg.b1;obtain⟨r,cb,rfl,_,_⟩:=YD a.brow Z;have O:=fun W (f:kz w W) b (ac:b<bs.length)=>QAM (a.kO f) Z Z b ac;rw[l] at M;rw[l,ho] at y;rw[he,K,L] at v;clear h hg l ho he K L hlen ab;have P:=ZB N;clear N;generalize S.st.mode=n0 at *;generalize S.st.view=n1 at *;generalize S.st.mount=n5 at *;generalize S.st.gen=n6 at *;generalize YB S.us=n7 at *;generalize YBL S=n8 at *;generalize ZM S.I.ol=n9 at *;go_enter func50,ntmps50;go_wp2_with (refine v.mono ?_;clear v;rintro e w1 ⟨rfl,Q⟩);have R:=Blk.new w1 58 #[ii n0,ii n1,ii I.ep,ii I.seq,ii I.done,ii n5,ii n6,ii n7,ii n8,ii n9];have z:kz w (w1.alloc (.cells #[ii n0,ii n1,ii I.ep,ii I.seq,ii I.done,ii n5,ii n6,ii n7,ii n8,ii n9] 58)):=Q.alloc _;generalize w1.alloc (.cells #[ii n0,ii n1,ii I.ep,ii I.seq,ii I.done,ii n5,ii n6,ii n7,ii n8,ii n9] 58)=wA at *;generalize w1.heap.size=gS at *;obtain⟨T,U,A,C,D⟩:=(a.kO z).cells;obtain⟨s0,s1,V,X,Y,_⟩:=Yf R;refine ZT (fun w'=>cl w' (aq gS 2) (ii I.ep)/\cl w' (aq gS 3) (ii I.seq)/\cl w' (aq gS 4) (ii I.done)/\cl w' (aq i 2) (ii I.ep)/\cl w' (aq i 3) (ii I.seq)/\cl w' (aq i 4) (ii I.done)) 23 [[0,1,2,3,4,5,6,7,8,9,10,11,12,13,14,15,16,17,18,19,20,21,22]] ⟨V,X,Y,A,C,D⟩ ?_;simp only[PI];iterate 23 refine wG ?_
 refine VB ?_;have a0:kz w wA.drew:=z.drew;clear T U A C D s0 s1 V X Y R z Q;generalize wA.drew=wB at *;go_wp2_with fail;go_loopw [6,7,8,9,10] (fun E _ _ _ _ wr=>∃ m:Nat,m<=B/\E=.int .i64 (m:Nat)/\kz w wr) (fun E _ _ _ _ _=>B-(intOf E).toNat)
 case atStart=>exact⟨0,AP _,rfl,a0⟩
 clear a0;obtain⟨m,hm,rfl,n⟩:=hrel;obtain⟨T,U,A,C,D⟩:=(a.kO n).cells;by_cases a1:m<B
 . have o:m<bs.length:=by have:=ZA P;omega
   have p:=M wr n m a1;have a2:I.base.getD m []=bs[m].2:=by rw[AA,a.bget o];rfl
   have t:=(a.kO n).bdat _ (AN o);have G:wr.cell? (aq r m)=some bs[m].1:=YI (a.kO n).brow (by rw[Aa,AC o];rfl);have ad:=fun W f=>y W f m a1;have a3:=fun W f=>O W f m o;generalize (I.over.getD m none).getD (I.base.getD m [])=ys at *;rw[a2] at p;clear a2;obtain⟨bm,a4⟩:=ex (bs[m]);rw[<- a4] at p t G;clear a4;obtain⟨am,xs⟩:=bm;simp only at p t G;obtain⟨g,c,rfl,ae,_,an⟩:=t.rd;have af:r<wr.heap.size:=(own_mem (a.kO n).brow (g:=r) (by simp[Value.ownBlock])).2;clear t y O
   go_wp2_with (first
    | (go_at_call 29
       refine p.mono ?_;clear p;rintro e w2 ⟨ag,uc,rfl,hu,a5⟩
       have a6:=ad w2 (n.tO a5))
    | (go_at_call 30
       refine a6.mono ?_;clear a6;rintro e u ⟨ah,vc,rfl,ai,a7⟩;have H:=a5.tO a7;have J:=n.tO H;obtain⟨d0,d1,d2,d3,d4⟩:=(a.kO J).cells;have ao:cl u (aq r m) (.slice (some g) 64 c):=(H.cell af sq m).trans G
       have a8:Calls prog 31 #[.slice ag 64 uc,.slice (some g) 64 c] u _:=XAA uc c xs xs (Rd.of_own (QB hu a7)) (ae.keep H) Z Z)
    | (go_at_call 162
       refine(a3 (u.drewN q) (J.tO (Keep.ofDrewN q))).mono ?_;clear a3;rintro e w5 ⟨aj,xc,rfl,ak,ap,rfl⟩
       have a9:Calls prog 31 #[.slice ah 64 vc,.slice aj 64 xc] (u.drewN q) _:=XAA vc xc ys ys ((Rd.of_own ai).drewN q) ak Z Z)
    | (go_at_call 31
       first
       | (with_reducible refine a8.mono ?_
          clear a8
          rintro e w4 ⟨rfl,q,rfl⟩)
       | (with_reducible refine a9.mono ?_
          clear a9;rintro e w6 ⟨rfl,k6,rfl⟩)))
   go_roundw;case rel=>exact⟨m+1,Z,by go_num,J.tO (Keep.ofDrewN (q+k6))⟩
   case measure=>simp[intOf];omega
 obtain rfl:m=B:=Z
 have o:bs.length=m:=ZA P;go_wp2_with fail;go_ret;exact⟨rfl,n⟩
def SpaceNo (us:List (Nat×Nat)) (W:PW) (m:Nat) (spare:Bool):Prop:=¬ KO W.pos.off (W.items.length+1) (W.blocks.length+m)/\¬ KO (QT W) 1 m/\Vk us spare
theorem RoomOk.of {W:PW} {m:Nat} (h:¬ SpaceNo us W m spare) (c:us.length=8):RoomOk us W m spare:=by
 intro d h2;have a:¬ Vk us spare:=fun a=>h ⟨d,h2,a⟩;unfold Vk at a;have f:XC us<=8:=by unfold XC;rw[<- c];exact List.findIdx_le_length
 have b:XC us<8:=by
  rcases BG (XC us) 8 with h | h
  . exact h
  exact absurd (.inr Z) a
 refine⟨b,?_,fun e=>?_⟩
 . rw[XI Z]
   have:=Cj (p:=fun u:Nat×Nat=>u.1 == 0) (xs:=us) (w:=by unfold XC at b;omega);exact CK.1 this
 rcases BG 2 (YB us) with h | h
 . exact h
 exact absurd (.inl ⟨e,Z⟩) a
theorem QBG {w:World} {base d g t p:Nat} {Fd Ft Fw:List Nat} {B:Nat} {lv:List Nat} {W:PW} (h:LogIs w base d g t p Fd Ft Fw B D us lv W) (ho:W.Ok) {i:PItem} (hi:i.May) (P:i.k≠7) (Q:SpaceNo us W (JM i) spare) (A:Option Addr) (c:Nat) :
 cr 105 #[pq p,.agg (itc i).toArray,.slice A (64*JM i) c,.bool spare] w (.tuple #[zz,ii 6]):=by
 obtain⟨u,y,H⟩:=Q;obtain⟨k,b,q,v⟩:=i;have R:=hi.bounds;simp only at R P;have r:=fun W=>Xh hi W;have C:=fun W=>Vl hi W;simp only[itc] at r C ⊢;have o:=Blk.new w 178 #[ii k,ii b,ii q,ii v];have z:=fun a (f:kz w a)=>YAD a base d Fd D (h.kO f).disk;have X:¬ ((k:Nat):Int)=7:=Z
 by_cases J:PItem.loaded ⟨k,b,q,v⟩=true
 . have E:JM ⟨k,b,q,v⟩=1:=by unfold JM;rw[AJ J]
   rw[E] at u y;rw[E,Cz];rw[J] at r;have F:=fun a (f:kz w a)=>ZAq (h.kO f) ho 1 Z u y H;clear u y H;rw[h.off] at z;obtain⟨K,s⟩:=ex (w.alloc (.cells #[ii k,ii b,ii q,ii v] 178));have L:kz w K:=by rw[s];exact kq.alloc _
   rw[<- s] at o;obtain⟨b0,b1,j,l⟩:=QK o
   have M:∀ {a},kz w a->cl a p (pq d):=fun f=>by
    obtain⟨I,Bv,ls,N⟩:=h.wri;exact(QE (N.blk.kO f)).1
   go_enter func105,ntmps105;go_wp2_with fail;rw[<- s]
   go_wp2_with (first
    | (go_at_call 212
       refine(r _).mono ?_;clear r b0 b1 j l;rintro e w1 ⟨rfl,G⟩
       obtain⟨b0,b1,j,l⟩:=QK (o.kO G))
    | (go_at_call 236
       refine(C _).mono ?_;clear C b0 b1 j l;rintro e S ⟨rfl,m⟩;replace m:=G.tO m;have n:=L.tO m;have T:=M n
       obtain⟨b0,b1,j,l⟩:=QK (o.kO m))
    | (go_at_call 134
       refine(z _ n).mono ?_;clear z
       rintro e w' ⟨rfl,rfl⟩)
    | (go_at_call 237
       refine(F _ n).mono ?_;clear F;rintro e U ⟨rfl,O⟩))
   go_ret2;exact⟨rfl,n.tO O⟩
 have V:PItem.loaded ⟨k,b,q,v⟩=false:=uq J
 have E:JM ⟨k,b,q,v⟩=0:=by unfold JM;rw[AF J]
 rw[E] at u y;rw[E,Nat.mul_zero];rw[V] at r;have F:=fun a (f:kz w a)=>ZAq (h.kO f) ho 0 Z u y H;clear u y H;rw[h.off] at z;obtain⟨K,s⟩:=ex (w.alloc (.cells #[ii k,ii b,ii q,ii v] 178));have L:kz w K:=by rw[s];exact kq.alloc _
 rw[<- s] at o;obtain⟨b0,b1,j,l⟩:=QK o
 have M:∀ {a},kz w a->cl a p (pq d):=fun f=>by
  obtain⟨I,Bv,ls,N⟩:=h.wri;exact(QE (N.blk.kO f)).1
 go_enter func105,ntmps105;go_wp2_with fail;rw[<- s]
 go_wp2_with (first
  | (go_at_call 212
     refine(r _).mono ?_;clear r b0 b1 j l;rintro e w1 ⟨rfl,G⟩
     obtain⟨b0,b1,j,l⟩:=QK (o.kO G))
  | (go_at_call 236
     refine(C _).mono ?_;clear C b0 b1 j l;rintro e S ⟨rfl,m⟩;replace m:=G.tO m;have n:=L.tO m;have T:=M n
     obtain⟨b0,b1,j,l⟩:=QK (o.kO m))
  | (go_at_call 134
     refine(z _ n).mono ?_;clear z
     rintro e w' ⟨rfl,rfl⟩)
  | (go_at_call 237
     refine(F _ n).mono ?_;clear F;rintro e U ⟨rfl,O⟩))
 go_ret2;exact⟨rfl,n.tO O⟩
section
variable (w:World) (base s d:Nat) (F:List Nat) (B:Nat) (S:PS) (h:StoreAt w base s d F B S) (ho:S.W.Ok) (hm:S.st.mode=1)
include h ho hm
theorem XBF (b:Nat) (r:b<B) (u:B<=64) (A:Option Addr) (c:Nat) (n:SpaceNo S.us S.W 1 false) :
 cr 27 #[pq s,b,.slice A 64 c] w (ii 6):=by
 obtain⟨g,t,p,m,Fd,Ft,Fw,f,i,j,h,rfl⟩:=h;have k:=Kc w base s d g t p m Fd Ft Fw f i j B S h b 1 Z Z;have l:=JV w base s d g t p m Fd Ft Fw f i j B S h 1 (.inr hm.symm);have o:PItem.May ⟨1,b,0,0⟩:=.inl ⟨.inl rfl,by simp only;omega,rfl,rfl⟩;have a:=QBG h.log ho o sq n A c;rw[show 64*JM ⟨1,b,0,0⟩=64 by simp[JM,PItem.loaded]] at a;simp only[itc] at a;obtain⟨v,y,z,C,D,E,F,G,H,I,J,K,L,M,N,O,P,Q⟩:=KC h.blk;go_enter func27,ntmps27
 go_wp2_with (first
  | (go_at_call 109;refine k.mono ?_;clear k;rintro e w' ⟨rfl,rfl⟩)
  | (go_at_call 93;refine l.mono ?_;clear l;rintro e w' ⟨rfl,rfl⟩)
  | (go_at_call 105;refine a.mono ?_;clear a;rintro e w1 ⟨rfl,q⟩))
 go_ret;exact⟨rfl,q⟩
theorem KBJ (e:Nat) (he:e=S.st.epoch+1) (N:e<=2147483647) (c:SpaceNo S.us S.W 0 false) :
 cr 26 #[pq s,e] w (ii 6):=by
 obtain⟨g,t,p,m,Fd,Ft,Fw,f,i,j,h,rfl⟩:=h;have b:=JV w base s d g t p m Fd Ft Fw f i j B S h 1 (.inr hm.symm);have k:PItem.May ⟨3,0,0,e⟩:=.inr (.inr (.inl ⟨rfl,rfl,rfl,by simp only;omega,by simp only;omega⟩));have a:=QBG h.log ho k sq c none 0;rw[show 64*JM ⟨3,0,0,e⟩=0 by simp[JM,PItem.loaded]] at a;simp only[itc] at a;obtain⟨l,n,o,q,u,v,y,z,A,C,D,E,F,G,H,I,J,K⟩:=KC h.blk;have L:((e:Nat):Int)=(S.st.epoch:Nat)+1:=Z
 have O:=ZB he;clear he;go_enter func26,ntmps26
 go_wp2_with (first
  | (go_at_call 93;refine b.mono ?_;clear b L;rintro r w' ⟨rfl,rfl⟩)
  | (go_at_call 105;refine a.mono ?_;clear a l n o q u v y z A C D E F G H I J K;rintro r w1 ⟨rfl,M⟩))
 go_ret;exact⟨rfl,M⟩
end
def Xg (o:POp):Nat:=if o.k=1 then 1 else 0
section
variable (w:World) (base r s d x:Nat) (Fs Fx:List Nat) (B:Nat) (R:RS) (h:ReplicaIs w base r s d x Fs Fx B R)
include h
theorem XBa (k j:Nat) (hg:Good B R.S k j) (hj:j<=100000) (o:POp) (ho:KS B o) (h2:o.k≠2) (i:RoomOk R.S.us R.S.W (Xg o) false) (hm:o.k=3->o.e=R.S.st.epoch+1) (A:Option Addr) (g c:Nat) (p:Rd w A g (bys o.d)) (K:∀ y,A=some y->y.block∉Fs) :
 Calls prog 267 #[pq r,.agg #[ii o.k,ii o.b,ii o.c,ii o.e,.slice A g c]] w fun e w'=>e=.returned zz/\∃ E S',StoreAt w' base s d E B S'/\Does B R.S o S'/\Keep Fs w w'/\Grow w Fs E:=by
 obtain⟨F,l,G,m,od⟩:=o;simp only at hm p h2 ⊢;have T:od.length=g:=uq p.1
 have a:kz w (w.alloc (.cells #[ii F,ii l,ii G,ii m,.slice A g c] 95)):=kq.alloc _;have L:=Blk.new w 95 #[ii F,ii l,ii G,ii m,.slice A g c];have n:=h.st.kO a.drew;have H:=h.mode;have I:=(h.kO a).cells.1;obtain⟨U,M,V,N,O⟩:=ZE L;rcases ho with⟨f,h2,q,P⟩ | ⟨f,_⟩ | ⟨f,h2,q⟩
 . simp only at f h2 q P
   subst f;obtain⟨b,rfl⟩:∃ b:Nat,l=b:=⟨l.toNat,Z⟩;obtain rfl:g=64:=Z
   have hW:=XAE n hg i hj H b Z c od (p.keep a.drew) K;clear h n i;go_enter func267,ntmps267;go_wp2_with fail;refine ZT (fun w'=>cl w' r (pq s)/\cl w' (aq w.heap.size 1) b/\cl w' (aq w.heap.size 4) (.slice A 64 c)) 8 [[0,1,2,3,4,5,6,7]] ⟨I,M,O⟩ ?_;simp only[PI];iterate 8 refine wG ?_
   refine VB ?_;go_wp2_with (refine hW.mono ?_;clear hW;rintro e Q ⟨rfl,t,S',u,v,z,C⟩);go_ret;exact⟨rfl,t,S',u,.inl ⟨rfl,uq v⟩,a.drew.zero.trans z (fun x D=>.inl D),C.keep a.drew⟩
 . exact absurd f h2
 simp only at f h2 q
 subst f;have J:=hm rfl;obtain⟨e,rfl⟩:∃ e:Nat,m=e:=⟨m.toNat,Z⟩;have hW:=KAJ n hg i hj H e Z;have S:=ZB J;clear h n hm J i;go_enter func267,ntmps267;go_wp2_with fail;refine ZT (fun w'=>cl w' r (pq s)/\cl w' (aq w.heap.size 3) (e:Nat)) 6 [[0,1,2,3,4,5]] ⟨I,N⟩ ?_;simp only[PI];iterate 6 refine wG ?_
 refine VB ?_;go_wp2_with (refine hW.mono ?_;clear hW;rintro e Q ⟨rfl,t,S',u,v,z,C⟩);go_ret;exact⟨rfl,t,S',u,.inr (.inr ⟨rfl,ZA S,uq v⟩),a.drew.zero.trans z (fun x D=>.inl D),C.keep a.drew⟩
theorem JBL (k j:Nat) (hg:Good B R.S k j) (hj:j<=100000) (o:POp) (ho:KS B o) (h2:o.k≠2) (g:SpaceNo R.S.us R.S.W (Xg o) false) (hm:o.k=3->o.e=R.S.st.epoch+1) (A:Option Addr) (f c:Nat) (u:Rd w A f (bys o.d)) :
 cr 267 #[pq r,.agg #[ii o.k,ii o.b,ii o.c,ii o.e,.slice A f c]] w (ii 6):=by
 obtain⟨v,i,y,l,od⟩:=o;simp only at hm u h2 ⊢;have L:od.length=f:=uq u.1
 have m:kz w (w.alloc (.cells #[ii v,ii i,ii y,ii l,.slice A f c] 95)):=kq.alloc _;have D:=Blk.new w 95 #[ii v,ii i,ii y,ii l,.slice A f c];have n:=h.st.kO m.drew;have z:=h.mode;have p:=hg.cap.ok;have E:=hg.b64;have M:=hg.epoch;have C:=(h.kO m).cells.1;obtain⟨N,F,O,G,H⟩:=ZE D;rcases ho with⟨a,h2,q,I⟩ | ⟨a,_⟩ | ⟨a,h2,q⟩
 . simp only at a h2 q I
   subst a;obtain⟨b,rfl⟩:∃ b:Nat,i=b:=⟨i.toNat,Z⟩;obtain rfl:f=64:=Z
   have hW:=XBF _ base s d Fs B R.S n p z b Z E A c g;clear h n g p hg;go_enter func267,ntmps267;go_wp2_with fail;refine ZT (fun w'=>cl w' r (pq s)/\cl w' (aq w.heap.size 1) b/\cl w' (aq w.heap.size 4) (.slice A 64 c)) 8 [[0,1,2,3,4,5,6,7]] ⟨C,F,H⟩ ?_;simp only[PI];iterate 8 refine wG ?_
   refine VB ?_;go_wp2_with (refine hW.mono ?_;clear hW;rintro e J ⟨rfl,t⟩);go_ret;exact⟨rfl,m.drew.tO t⟩
 . exact absurd a h2
 simp only at a h2 q
 subst a;have K:=hm rfl;obtain⟨e,rfl⟩:∃ e:Nat,l=e:=⟨l.toNat,Z⟩;have hW:=KBJ _ base s d Fs B R.S n p z e Z Z g;clear h n hm K g p hg;go_enter func267,ntmps267;go_wp2_with fail;refine ZT (fun w'=>cl w' r (pq s)/\cl w' (aq w.heap.size 3) (e:Nat)) 6 [[0,1,2,3,4,5]] ⟨C,G⟩ ?_;simp only[PI];iterate 6 refine wG ?_
 refine VB ?_;go_wp2_with (refine hW.mono ?_;clear hW;rintro e J ⟨rfl,t⟩);go_ret;exact⟨rfl,m.drew.tO t⟩
end
structure OneIs (B:Nat) (R:RS) (m:Nat) (q:PSlot):Prop where
 pos:1<=m
 sl:R.sl=(QD m).set (R.next % m) q
 is:q.is=true
 op:KS B q.o
 k2:q.o.k≠2
 mke:q.o.k=3->q.o.e=R.S.st.epoch+1
theorem OneIs.cur {B:Nat} {R:RS} {m:Nat} {q:PSlot} (h:OneIs B R m q):R.sl.length=m/\R.cur=q/\R.cut=QD m/\R.sl.getD (R.next % R.sl.length) PSlot.none_=q/\q∈R.sl:=by
 have a:R.sl.length=m:=by rw[h.sl];simp[QD]
 have b:R.next % m<m:=Bk _ h.pos
 have c:R.sl.getD (R.next % R.sl.length) PSlot.none_=q:=by
  rw[a,h.sl,AA,DQ (by simpa [QD] using b)];rfl
 refine⟨a,c,?_,c,?_⟩
 . unfold RS.cut
   rw[a,h.sl,Dl];exact Jq
 rw[h.sl]
 exact List.mem_set (by simpa [QD] using b) _
def KBW (w:World) (base r s d x:Nat) (Fs Fx:List Nat) (B:Nat) (R:RS) (m:Nat) (q:PSlot) (e:Ending) (w':World):Prop:=
 ∃ Fs' Fx' S' u,ReplicaIs w' base r s d x Fs' Fx' B ⟨S',R.next+1,QD m⟩/\Does B R.S q.o S'/\Keep (YJ r Fs Fx) w w'/\Grow w (YJ r Fs Fx) (YJ r Fs' Fx') /\
   e=.returned (.tuple #[u,zz])/\w'.ownsRow w.heap.size 5 1 u 25 (bys (YG 8 S'.st.view S'.st.seq 0 0 S'.st.epoch S'.st.done []))
structure OneInv (w:World) (base r s d x:Nat) (Fs Fx:List Nat) (B:Nat) (R:RS) (m:Nat) (q:PSlot) (Fs1 Fx1:List Nat) (R1:RS) (bo:Nat) (A:Option Addr) (c:Nat) (wr:World):Prop where
 rep:ReplicaIs wr base r s d x Fs1 Fx1 B R1
 st:(R1=R/\Fs1=Fs/\Fx1=Fx/\kz w wr)\/∃ S',Does B R.S q.o S'/\R1=⟨S',R.next+1,QD m⟩
 keep:Keep (YJ r Fs Fx) w wr
 grow:Grow w (YJ r Fs Fx) (YJ r Fs1 Fx1)
 blk:Blk wr bo 95 #[ii R1.cur.o.k,ii R1.cur.o.b,ii R1.cur.o.c,ii R1.cur.o.e,.slice A R1.cur.o.d.length c]
 val:R1.cur.v=.slice A R1.cur.o.d.length c
 bnew:bo∉YJ r Fs1 Fx1
 bge:w.heap.size<=bo
section
variable (w:World) (base r s d x:Nat) (Fs Fx:List Nat) (B:Nat) (R:RS) (h:ReplicaIs w base r s d x Fs Fx B R) (m:Nat) (q:PSlot) (hq:OneIs B R m q) (k j:Nat) (hg:Good B R.S k j) (hj:j<=90000) (hn:R.next<=1000000)
include h hq hg hj hn
theorem VAs (ac:RoomOk R.S.us R.S.W (Xg q.o) false) (ad:∀ S',Does B R.S q.o S'->S'.st=Ji R.S.st q.o/\Good B S' 100 (j+2)) :
 Calls prog 154 #[pq r] w (KBW w base r s d x Fs Fx B R m q):=by
 obtain⟨hlen,t,ae,b0,J⟩:=hq.cur
 have af:Calls prog 266 #[pq x] w fun e w'=>∃ q,R.cur=q/\e=.returned (.tuple #[.agg #[.int .i64 q.o.k,.int .i64 q.o.b,.int .i64 q.o.c,.int .i64 q.o.e,q.v],.bool q.is])/\(∃ A c,q.v=.slice A q.o.d.length c)/\kz w w':=by
  obtain⟨L,hw⟩:=h.win;exact PeekW_is w base x L Fx R.next R.sl hw
 obtain⟨ag,K⟩:=h.cells;go_enter func154,ntmps154
 go_wp2_with (
  (refine af.mono ?_)
  clear af;rintro e w1 ⟨b1,U,rfl,⟨A,c,V⟩,M⟩;rw[V])
 obtain rfl:q=b1:=t.symm.trans U;have N:kz w (w1.alloc (.cells #[.int .i64 q.o.k,.int .i64 q.o.b,.int .i64 q.o.c,.int .i64 q.o.e,.slice A q.o.d.length c] 95)):=M.alloc _
 have h0:OneInv w base r s d x Fs Fx B R m q Fs Fx R w1.heap.size A c (w1.alloc (.cells #[.int .i64 q.o.k,.int .i64 q.o.b,.int .i64 q.o.c,.int .i64 q.o.e,.slice A q.o.d.length c] 95)):=by
  refine⟨h.kO N,.inl ⟨rfl,rfl,rfl,N⟩,N.zero,Grow.refl _ _,?_,?_,fun hm=>by have:=h.lt _ hm;have:=M.size;omega,M.size⟩
  . rw[t];exact Blk.new _ _ _
  rw[t];exact V
 have F:R.cur.is=q.is:=by rw[U]
 have b2:=ZB hq;have ah:=ZB ad;have b3:=ZB ac;have b4:=ZB hg;clear ad ac hq;go_loopw [4,5,6] (fun a b _ wr=>∃ o p g G v K,a=.pointer (some (aq G 0))/\b=.bool g.cur.is/\OneInv w base r s d x Fs Fx B R m q o p g G v K wr) (fun _ _ _ wr=>R.next+1-KAa x wr)
 case atStart=>exact⟨Fs,Fx,R,w1.heap.size,A,c,rfl,by rw[F],h0⟩
 clear h0 N ag K V F M U;obtain⟨o,p,g,G,v,W,rfl,rfl,f⟩:=hrel;obtain⟨ag,K⟩:=f.rep.cells;obtain⟨X,Y,o2,o3,o4⟩:=ZE f.blk;rcases f.st with⟨rfl,rfl,rfl,bn⟩ | ⟨O,C,rfl⟩
 . have H:=f.val
   have a0:=f.blk;have D:=(ZA b2:OneIs B g m q);rw[t] at X Y o2 o3 o4 H a0 ⊢;obtain⟨a1,P⟩:=f.rep.win;have ho:=D.op;have ai:=P.dat _ J;have b5:∀ y,v=some y->y.block∉o:=fun y i hm=>f.rep.ap _ hm (P.inQ J _ (by rw[H,i];simp[Value.ownBlock]));have b6:G∉o:=fun hm=>f.bnew (by simp[YJ,hm]);have b7:G∉p:=fun hm=>f.bnew (by simp[YJ,hm]);have b8:(g.sl.getD (g.next % g.sl.length) PSlot.none_).is=true:=by rw[b0];exact D.is
   have l:=D.k2;have aj:=D.mke;have F:=D.is;have a2:=XBa wr base r s d x o p B g f.rep k j (ZA b4) Z q.o ho l (ZA b3) aj v q.o.d.length W (Rd.of_own (by rw[<- H];exact ai)) b5;have a3:=f.rep;have a4:=ZB f;have bo:=ZB t;have ak:=ZB ae;have bp:=ZB J;clear D f t ae J aj ho;obtain⟨qv,⟨a5,ob,oc,oe,od⟩,qi⟩:=q;simp only at X Y o2 o3 o4 H a0 ai F a2 ⊢;subst F;subst H
   go_wp2_with (first
    | (go_at_call 267
       refine a2.mono ?_;clear a2;rintro e w2 ⟨rfl,al,Q,b9,C,l,am⟩;obtain⟨an,bq⟩:=(ZA ah) Q C;obtain⟨ba,bb,_⟩:=ZAA g.S.st ⟨a5,ob,oc,oe,od⟩;have ao:=a3.setSt b9 l am (by rw[an,ba];exact a3.mode) (by rw[an,bb]);have bc:=P.keep l a3.ap.symm;have ap:=KAo w2 base x a1 p g.next g.sl bc b8 Z;have bd:=a0.keep l b6
       obtain⟨d0,d1⟩:=ao.cells)
    | (go_at_call 269
       refine ap.mono ?_;clear ap;rintro e E ⟨_,_,rfl,a6,h3,S,ar⟩;have I:=ao.setWin ⟨a1,h3⟩ S (fun y i=>.inl (ar y i));have au:=bd.keep S b7;have br:=au.lt;obtain⟨X,Y,o2,o3,o4⟩:=ZE au;obtain⟨d0,d1⟩:=I.cells;have bs:=I.blk.lt;have a7:kz E (E.alloc (.cells #[ii a5,ii ob,ii oc,ii oe,.slice v od.length W] 95)):=kq.alloc _;have av:=PeekW_is _ base x a1 a6 (g.next+1) (g.sl.set (g.next % g.sl.length) PSlot.none_) (h3.kO a7)
       have n:=Blk.new E 95 #[ii a5,ii ob,ii oc,ii oe,.slice v od.length W])
    | (go_at_call 266
       refine av.mono ?_;clear av;rintro e w4 ⟨q,bf,rfl,⟨a8,c4,aw⟩,a9⟩;rw[aw];replace n:=n.kO a9;obtain⟨z0,z1,z2,z3,z4⟩:=ZE n;have f0:=n.frozen 0;have f1:=n.frozen 1;have f2:=n.frozen 2;have f3:=n.frozen 3;have f4:=n.frozen 4))
   have h5:=n.put5 (.int .i64 q.o.k) (.int .i64 q.o.b) (.int .i64 q.o.c) (.int .i64 q.o.e) (.slice a8 q.o.d.length c4);have aa:=Keep.put5 w4 E.heap.size (.int .i64 q.o.k) (.int .i64 q.o.b) (.int .i64 q.o.c) (.int .i64 q.o.e) (.slice a8 q.o.d.length c4);unfold put5 at h5 aa;have T:(⟨Q,g.next+1,g.cut⟩:RS).cur=q:=bf;rw[ZA ak] at T
   have bg:Apart (YJ r al a6) [E.heap.size]:=fun y i hm=>by
    simp at hm;have:=I.lt y i;omega
   have ax:=(I.kO (a7.tO a9)).keep aa bg;have bh:g.sl.set (g.next % g.sl.length) PSlot.none_=QD m:=ZA ak;have ay:=ax;rw[bh] at ay;have f:=ZA a4;have bt:=l.size;have bu:=S.size;have bv:=f.keep.size;have bi:=Jh P;go_roundw
   case rel=>
    refine⟨al,a6,⟨Q,g.next+1,QD m⟩,E.heap.size,a8,c4,rfl,by rw[T],⟨ay,.inr ⟨Q,C,rfl⟩,?_,?_,?_,?_,?_,?_⟩⟩
    . refine(((f.keep.trans l (fun y i=>f.grow y (by simp[YJ,i]))).trans S (fun y i=>f.grow y (by simp[YJ,i]))).tO (a7.tO a9)).trans aa (fun y i=>.inr ?_)
      simp at i;omega
    . intro y i
      simp only[YJ,AL,AD] at i;rcases i with i | i | i
      . exact f.grow y (by simp[YJ,i])
      . rcases am y i with i | i
        . exact f.grow y (by simp[YJ,i])
        exact .inr Z
      exact f.grow y (by simp[YJ,ar y i])
    . rw[T];exact h5
    . rw[T];exact aw
    . exact fun hm=>by have:=I.lt _ hm;omega
    omega
   case measure=>
    obtain⟨bw,bj⟩:=ax.win;have bk:=Jh bj;simp only[bi];refine Nat.lt_of_le_of_lt (Ar (congrArg (fun z=>g.next+1-z) bk)) ?_;show g.next+1-(g.next+1)<g.next+1-g.next;omega
 have bl:(⟨O,R.next+1,QD m⟩:RS).cur.is=false:=by rw[XAR];rfl
 obtain⟨bx,ab⟩:=(ZA ah) O C;have e1:=ab.seq;have e2:=ab.epoch;have e3:=ab.done;rw[bl];have az:=Vo wr base r s d x o p B ⟨O,R.next+1,QD m⟩ f.rep (by simp only;omega) (by simp only;omega) e3;have a4:=ZB f;have bm:=ZB C;clear f C;go_wp2_with (refine az.mono ?_;clear az;rintro e w2 ⟨u,rfl,hu,l⟩);go_ret2;have f:=ZA a4;exact⟨o,p,O,u,f.rep.kO l,ZA bm,f.keep.tO l,f.grow,rfl,VC hu f.keep.size⟩
omit hn in
theorem VBT (hno:SpaceNo R.S.us R.S.W (Xg q.o) false) :
 cr 154 #[pq r] w (.tuple #[zn,ii 6]):=by
 obtain⟨hlen,hcur,hcut,hget,hmem⟩:=hq.cur
 have hP:Calls prog 266 #[pq x] w fun e w'=>∃ q,R.cur=q/\e=.returned (.tuple #[.agg #[.int .i64 q.o.k,.int .i64 q.o.b,.int .i64 q.o.c,.int .i64 q.o.e,q.v],.bool q.is])/\(∃ A c,q.v=.slice A q.o.d.length c)/\kz w w':=by
  obtain⟨L,hw⟩:=h.win;exact PeekW_is w base x L Fx R.next R.sl hw
 have hDo:∀ W (hk:kz w W) A c,q.v=.slice A q.o.d.length c->cr 267 #[pq r,.agg #[.int .i64 q.o.k,.int .i64 q.o.b,.int .i64 q.o.c,.int .i64 q.o.e,.slice A q.o.d.length c]] W (ii 6):=fun W hk A c hv=>by
  obtain⟨L,hw⟩:=(h.kO hk).win;exact JBL W base r s d x Fs Fx B R (h.kO hk) k j hg Z q.o hq.op hq.k2 hno hq.mke A q.o.d.length c (Rd.of_own (by rw[<- hv];exact hw.dat _ hmem))
 obtain⟨c0,c1⟩:=h.cells;have hcl:=fun W (hk:kz w W)=>(h.kO hk).cells;have hqi:=hq.is;clear h hq hg hno hmem hget hcut hlen;go_enter func154,ntmps154
 go_wp2_with (
  (refine hP.mono ?_)
  clear hP;rintro e w1 ⟨q',hq',rfl,⟨A,c,hqv⟩,hk1⟩;rw[hqv])
 obtain rfl:q=q':=hcur.symm.trans hq';have hkA:kz w (w1.alloc (.cells #[.int .i64 q.o.k,.int .i64 q.o.b,.int .i64 q.o.c,.int .i64 q.o.e,.slice A q.o.d.length c] 95)):=hk1.alloc _;have hbO:=Blk.new w1 95 #[.int .i64 q.o.k,.int .i64 q.o.b,.int .i64 q.o.c,.int .i64 q.o.e,.slice A q.o.d.length c];have hD:=hDo _ hkA A c hqv;clear hDo;go_loopw [4,5,6] (fun a b _ wr=>a=.pointer (some w1.heap.size)/\b=.bool true/\wr=w1.alloc (.cells #[.int .i64 q.o.k,.int .i64 q.o.b,.int .i64 q.o.c,.int .i64 q.o.e,.slice A q.o.d.length c] 95)) (fun _ _ _ _=>0)
 case atStart=>exact⟨rfl,by rw[hqi],rfl⟩
 case round=>
  obtain⟨rfl,rfl,rfl⟩:=hrel;obtain⟨o0,o1,o2,o3,o4⟩:=ZE hbO;obtain⟨d0,d1⟩:=hcl _ hkA;go_wp2_with (refine hD.mono ?_;clear hD;rintro e w2 ⟨rfl,hk2⟩);go_ret2;exact⟨rfl,hkA.tO hk2⟩
end
theorem YAN {w:World} {base r s d x:Nat} {Fs Fx:List Nat} {B:Nat} {R:RS} (h:ReplicaIs w base r s d x Fs Fx B R) (a:Ending->World->Prop)
 (b:∀ w1,kz w w1->Calls prog 154 #[pq r] w1 (fun e w'=>∃ A n c z,e=.returned (.tuple #[.slice A n c,ii z])/\a e w')) :
 Calls prog 51 #[pq r] w a:=by
 have f:=readyR_ok w base r s d x Fs Fx B R h;clear h;go_enter func51,ntmps51
 go_wp2_with (first
  | (go_at_call 149;refine f.mono ?_;clear f;rintro e w1 ⟨rfl,g⟩;have ho:=b w1 g;clear b)
  | (go_at_call 154;refine ho.mono ?_;clear ho;rintro e j ⟨A,n,c,z,rfl,i⟩))
 exact i
section
variable (w:World) (base r s d x:Nat) (Fs Fx:List Nat) (B:Nat) (S:PS) (nx mW:Nat) (h:ReplicaIs w base r s d x Fs Fx B ⟨S,nx,QD mW⟩) (hbase:base<=w.heap.size) (k b c e m:Nat) (xs:List UInt8) (A:Option Addr) (cp:Nat)
 (ha:Rd w A (25+m) (bys (YG k S.st.view nx b c e 0 xs))) (ho:OpMay k b c e m) (hlen:xs.length=m) (hfor:b+max c 1<=B\/k=3) (hfs:1<=nx/\nx<=1000000) (hW:1<=mW) (hof:KS B ⟨k,b,c,e,xs⟩) (h2:k≠2) (he:k=3->e=S.st.epoch+1) (kk j:Nat) (hg:Good B S kk j) (hj:j<=90000)
include h hbase ha ho hlen hfor hfs hW hof h2 he hg hj
omit hg hj in
theorem ZAQ (Post:Ending->World->Prop) (hon:∀ w6 F' v,ReplicaIs w6 base r s d x Fs F' B ⟨S,nx,(QD mW).set (nx % mW) ⟨v,⟨k,b,c,e,xs⟩,true⟩⟩->OneIs B ⟨S,nx,(QD mW).set (nx % mW) ⟨v,⟨k,b,c,e,xs⟩,true⟩⟩ mW ⟨v,⟨k,b,c,e,xs⟩,true⟩->Keep (YJ r Fs Fx) w w6->Grow w (YJ r Fs Fx) (YJ r Fs F') ->
 Calls prog 154 #[pq r] w6 (fun e w'=>∃ A n c z,e=.returned (.tuple #[.slice A n c,ii z])/\Post e w')) :
 Calls prog 45 #[pq r,.slice A (25+m) cp] w Post:=by
 refine JBR h hbase nx xs cp ha ho hlen hfor Z _ ?_;intro w5 UA uc hk5 hu;obtain⟨L,hw⟩:=h.win;simp only at hw;have hl:(QD mW).length=mW:=length_emptyW mW;subst hlen;have hu5:=VC hu hbase;refine(ZBF w5 base x L Fx nx (QD mW) (hw.kO hk5) nx (AG _) Z Z (KU _ _) k b c e UA uc xs hu5).mono ?_;rintro e5 w6 ⟨rfl,F',hw6,hk6,hF'⟩;refine .inl ⟨rfl,?_⟩;have hfresh:∀ z∈(Value.slice UA xs.length uc).ownBlock.toList,w.heap.size<=z:=fun z hz=>(own_mem hu hz).1
 have hr6:=(h.kO hk5).setWin ⟨L,hw6⟩ hk6 (fun y hy=>by
  rcases hF' y hy with h1 | h1
  . exact .inl h1
  . refine .inr ⟨fun hm=>?_,?_⟩
    . have:=hfresh y h1;have:=h.st.lt y hm;omega
    . have:=hfresh y h1;have:=h.blk.lt;omega)
 rw[hl] at hr6;have hkk:Keep (YJ r Fs Fx) w w6:=hk5.zero.trans hk6 (fun y hy=>.inl (by simp[YJ,hy]))
 have hg6:Grow w (YJ r Fs Fx) (YJ r Fs F'):=by
  intro y hy;simp only[YJ,AL,AD] at hy ⊢;rcases hy with hy | hy | hy
  . exact .inl (.inl hy)
  . exact .inl (.inr (.inl hy))
  . rcases hF' y hy with h8 | h8
    . exact .inl (.inr (.inr h8))
    . exact .inr (hfresh y h8)
 refine hon w6 F' _ hr6 ⟨hW,rfl,rfl,hof,(show ((k:Nat):Int)≠2 from Z),fun h3=>?_⟩ hkk hg6;have h4:((k:Nat):Int)=3:=h3;have:=he Z;simp only;omega
theorem XAh (q:RoomOk S.us S.W (Xg ⟨k,b,c,e,xs⟩) false) (t:∀ S',Does B S ⟨k,b,c,e,xs⟩ S'->S'.st=Ji S.st ⟨k,b,c,e,xs⟩/\Good B S' 100 (j+2)) :
 Calls prog 45 #[pq r,.slice A (25+m) cp] w fun l w'=>∃ a f S' g i,l=.returned (.tuple #[.slice g 25 i,zz])/\ReplicaIs w' base r s d x a f B ⟨S',nx+1,QD mW⟩/\Does B S ⟨k,b,c,e,xs⟩ S'/\Keep (YJ r Fs Fx) w w'/\Grow w (YJ r Fs Fx) (YJ r a f):=by
 refine ZAQ w base r s d x Fs Fx B S nx mW h hbase k b c e m xs A cp ha ho hlen hfor hfs hW hof h2 he _ ?_;intro z C v D hq n o;refine(VAs z base r s d x Fs C B _ D mW _ hq kk j hg hj hfs.2 q t).mono ?_;rintro l w' ⟨a,f,S',u,E,h2,F,G,rfl,H⟩;obtain⟨g,i,rfl,_⟩:=XB H;have J:=n.size;refine⟨g,_,i,_,rfl,a,f,S',g,i,rfl,E,h2,n.trans F o,fun y I=>?_⟩;rcases G y I with p | p
 . exact o y p
 exact .inr Z
theorem KAe (n:SpaceNo S.us S.W (Xg ⟨k,b,c,e,xs⟩) false) :
 Calls prog 45 #[pq r,.slice A (25+m) cp] w fun a w'=>a=.returned (.tuple #[zn,ii 6])/\∃ f q,ReplicaIs w' base r s d x Fs f B ⟨S,nx,(QD mW).set (nx % mW) q⟩/\OneIs B ⟨S,nx,(QD mW).set (nx % mW) q⟩ mW q/\q.o=⟨k,b,c,e,xs⟩/\Keep (YJ r Fs Fx) w w'/\Grow w (YJ r Fs Fx) (YJ r Fs f):=by
 refine ZAQ w base r s d x Fs Fx B S nx mW h hbase k b c e m xs A cp ha ho hlen hfor hfs hW hof h2 he _ ?_;intro o g v i hq p t;refine(VBT o base r s d x Fs g B _ i mW _ hq kk j hg hj n).mono ?_;rintro a w' ⟨rfl,l⟩;exact⟨none,0,0,_,rfl,rfl,g,_,i.kO l,hq,rfl,p.tO l,t⟩
end
section
variable (w:World) (base r s d x:Nat) (Fs Fx:List Nat) (B:Nat) (R:RS) (h:ReplicaIs w base r s d x Fs Fx B R) (m:Nat) (q:PSlot) (hq:OneIs B R m q) (k j:Nat) (hg:Good B R.S k j) (hj:j<=90000) (hn:R.next<=1000000)
include h hq hg hj hn
theorem Vy (o:RoomOk R.S.us R.S.W (Xg q.o) false) (p:∀ S',Does B R.S q.o S'->S'.st=Ji R.S.st q.o/\Good B S' 100 (j+2)) :
 Calls prog 51 #[pq r] w fun i w'=>∃ c e S' a b,i=.returned (.tuple #[.slice a 25 b,zz])/\ReplicaIs w' base r s d x c e B ⟨S',R.next+1,QD m⟩/\Does B R.S q.o S'/\Keep (YJ r Fs Fx) w w'/\Grow w (YJ r Fs Fx) (YJ r c e) /\
  w'.ownsRow w.heap.size 5 1 (.slice a 25 b) 25 (bys (YG 8 S'.st.view S'.st.seq 0 0 S'.st.epoch S'.st.done [])):=by
 refine YAN h _ (fun w1 f=>?_);refine(VAs w1 base r s d x Fs Fx B R (h.kO f) m q hq k j hg hj hn o p).mono ?_;rintro i w' ⟨c,e,S',u,t,h2,v,z,rfl,l⟩;obtain⟨a,b,rfl,_⟩:=XB l;have A:=f.size;refine⟨a,_,b,_,rfl,c,e,S',a,b,rfl,t,h2,f.zero.trans v (fun y g=>.inl g),fun y g=>?_,VC l A⟩;rcases z y g with n | n
 . exact .inl n
 exact .inr Z
omit hn in
theorem Yy (hno:SpaceNo R.S.us R.S.W (Xg q.o) false) :
 cr 51 #[pq r] w (.tuple #[zn,ii 6]):=by
 refine YAN h _ (fun w1 hk1=>?_);refine(VBT w1 base r s d x Fs Fx B R (h.kO hk1) m q hq k j hg hj hno).mono ?_;rintro en w' ⟨rfl,hk7⟩;exact⟨none,0,0,_,rfl,rfl,hk1.tO hk7⟩
end
section
open Go.RowKit Go.Shelf
attribute [local go_sem] AW
theorem YAk {W:World} {b:Nat} {i j k l m:Value} (h:Blk W b t #[i,j,k,l,m]) (a c d e f:Value) :
 Blk (((((W.setCell b a).setCell (aq b 1) c).setCell (aq b 2) d).setCell (aq b 3) e).setCell (aq b 4) f) b t #[a,c,d,e,f] /\
 Keep [b] W (((((W.setCell b a).setCell (aq b 1) c).setCell (aq b 2) d).setCell (aq b 3) e).setCell (aq b 4) f):=by
 have g:=((((h.set 0 a).set 1 c).set 2 d).set 3 e).set 4 f;simp only[PU] at g;exact⟨g,(((((Keep.refl [b] W).sc b 0).sc b 1).sc b 2).sc b 3).sc b 4⟩
def YM (W:World) (s d g sg:Nat) (q:PPos):Prop:=Blk W s 375 #[pq d,pq g,sg,zz,zz,zz,zz,.bool true,q.seg,q.off,q.lsn,q.prev,q.mount,zz]
theorem QAi {w:World} {g B:Nat} (d sg:Nat) (hg:GeomAt w g B) (j:sg<=7) :
 Calls prog 210 #[pq d,pq g,sg] w fun e w'=>∃ s,e=.returned (pq s)/\YM w' s d g sg ⟨sg,0,0,0,0⟩/\w.heap.size<=s/\kz w w':=by
 have f:Calls prog 324 #[pq d,pq g,.agg #[sg,zz,zz,zz,zz]] w fun e w'=>∃ s,e=.returned (pq s)/\Blk w' s 375 #[pq d,pq g,sg,zz,zz,zz,zz,.bool false,sg,zz,zz,zz,zz,zz]/\w.heap.size<=s/\kz w w':=by
  go_enter func324,ntmps324
  go_wp2
  go_ret;exact⟨_,rfl,Blk.new1 _ _ _ _,sq,(kq.alloc _).alloc _⟩
 have b:=fun W (a:kz w W)=>Jw (hg.kO a) (sg:Nat);rw[AH Z] at b;go_enter func210,ntmps210
 go_wp2_with (first
  | (refine f.mono ?_
     clear f;rintro e w1 ⟨s,rfl,c,h,a⟩;have k:=(cells14 c).2.2.2.2.2.2.2.1
     have l:=c.frozen 7)
  | (refine(b _ a).mono ?_;clear b;rintro e m ⟨rfl,rfl⟩))
 have i:=c.set 7 (.bool true);simp only[PU] at i;go_ret;exact⟨s,rfl,i,h,a.setCell (p:=⟨s,7,none⟩) (.inr h) _⟩
theorem Km {w:World} {s d g sg base:Nat} {q:PPos} {F:List Nat} (f:YM w s d g sg q) (h:DiskAt w base d F D) (K:D.off=false) (k:Nat) (L:k<D.n) (M:D.faults[k]? = some false) :
 Calls prog 424 #[pq s,k] w fun e w'=>∃ u,e=.returned (.tuple #[u,.bool true])/\w'.ownsRow w.heap.size 5 1 u 64 (bys (Go.Proofs.YtfedaknhecbehaaGreat.seg 64 D.now k))/\YM w' s d g sg q/\Keep [s] w w':=by
 have i:=XAG w base d F D h K k L M;unfold YM at *;obtain⟨j,l,m,n,o,p,r,t,v,y,z,A,B,C⟩:=cells14 f;go_enter func424,ntmps424
 go_wp2_with (
  refine i.mono ?_;clear i j l m n o p r t v y z A B C;rintro e E ⟨u,rfl,b,G⟩;obtain⟨O,P,rfl,_⟩:=XB b;have a:=f.kO G;obtain⟨j,l,m,n,o,p,r,t,v,y,z,A,B,C⟩:=cells14 a;have Q:=a.frozen 13;have R:=a.lt)
 have H:=a.set 13 (.int .i64 0);have I:Keep [s] E (E.setCell (aq s 13) (.int .i64 0)):=kq.sc s 13;have N:=KA b I (fun x c hm=>by simp at hm;subst hm;exact own_blk_ne b a (by decide) c);simp only[PU] at H;have J:=H.drew;have q:=(cells14 J).2.2.2.2.2.2.2.2.2.2.2.2.2;refine ZT (fun W=>cl W (aq s 13) zz) 7 [[0,1,2,3,4,5,6]] q ?_;simp only[PI];iterate 7 refine wG ?_
 refine VB ?_
 go_wp2
 go_ret2;exact⟨_,rfl,QB N kq.drew,J,(G.zero.trans I (fun x c=>.inl c)).drew⟩
theorem YAj {w:World} {s d g B base sg:Nat} (a b f:Nat) {q:PPos} {F:List Nat} (l:YM w s d g sg q) (hg:GeomAt w g B) (h:DiskAt w base d F D) (ae:D.off=false) (hn:D.n=198+4*pgs B) (af:sg<=7) (V:D.faults[JC B sg]? = some false)
 (h2:1<=a/\a<=2147483647) (h3:1<=b/\b<=2147483647) (h4:f<=4294967295) (X:Go.Proofs.YtfedaknhecbehaaGreat.seg 64 D.now (JC B sg)=Js sg a b f) (ag:s∉F) (J:s≠g) :
 Calls prog 382 #[pq s] w fun e w'=>e=.returned (.tuple #[.agg #[ii sg,ii 1,ii b,ii f,ii a],.bool true])/\YM w' s d g sg q/\Keep [s] w w':=by
 have Y:=fun W (m:Keep [s] w W)=>Jw (hg.keep m (by simpa using fun e=>J e.symm)) (sg:Nat);rw[AH Z] at Y;have ah:=fun W (m:Keep [s] w W)=>ConfigG_is W g B (hg.keep m (by simpa using fun e=>J e.symm));have a0:∀ W,Keep [s] w W->cr 34 #[pq g,ii sg] W (ii ((JC B sg:Nat))):=fun W m=>Zg W g B (hg.keep m (by simpa using fun e=>J e.symm)) sg af;have L:=fun W (m:Keep [s] w W) (a1:YM W s d g sg q)=>Km a1 (h.keep m (fun x t hm=>by simp at hm;subst hm;exact ag t)) ae (JC B sg) (by unfold JC;omega) V;rw[X] at L;generalize JC B sg=K at *;have y:=fun W A c (ha:Rd W A 64 (bys (Js sg a b f)))=>VBI sg a b f Z h2 h3 h4 c ha;generalize Js sg a b f=hb at *;clear X V hn;have a1:=l;have b4:=fun W=>KE (P:=prog) underlying28 2 rfl isAgg3 #[ii B,ii 8,ii 24] rfl W;unfold YM at l;obtain⟨ai,i,c2,aj,c4,c5,c6,c7,c8,c9,ak,al,am,an⟩:=cells14 l;have ao:=l.frozen 13;have ap:=l.lt;have M:=l.set 13 (.int .i64 0);have a2:Keep [s] w (w.setCell (aq s 13) (.int .i64 0)):=kq.sc s 13;have a3:s≠w.heap.size:=Z
 simp only[PU] at M;go_enter func382,ntmps382;go_wp2_with fail;have N:=Blk.new (w.setCell (aq s 13) (.int .i64 0)) 49 #[ii sg,zz,zz,zz,zz];rw[World.size_setCell] at N;have a4:=a2.alloc (.cells #[ii sg,zz,zz,zz,zz] 49);have a5:=M.kO ((Keep.refl [] _).alloc (.cells #[ii sg,zz,zz,zz,zz] 49));clear M a2 ao ap ai i c2 aj c4 c5 c6 c7 c8 c9 ak al am an l;generalize ((w.setCell (aq s 13) (.int .i64 0)).alloc (.cells #[ii sg,zz,zz,zz,zz] 49))=w1 at *;have n:=N.drew;have o:=a5.drew;have j:=a4.drew;obtain⟨p0,r,z,C,E⟩:=cells5 n;have i:=(cells14 o).2.1;refine ZT (fun W=>cl W (aq s 1) (pq g)/\cl W w.heap.size (ii sg)/\cl W (aq w.heap.size 1) zz) 22 [[0,1,2,3,4,5],[6,7,8,9,10,11,12,13,14,15,16,17,18,19],[20,21]] ⟨i,p0,r⟩ ?_;simp only[PI];iterate 6 refine wG ?_
 refine JB rq fun K p=>?_;go_wp2_with (refine(Y _ j).mono ?_;rintro e w2 ⟨rfl,rfl⟩);refine p _ _ (⟨i,p0,r⟩) ?_
 iterate 13 refine wG ?_
 refine JB rq fun K p=>?_;go_wp2_with (refine(ah _ j).mono ?_;rintro e w2 ⟨rfl,G⟩);have H:=n.kO G;have O:=o.kO G;have a6:=j.tO G;obtain⟨a7,a8,ar,au,av⟩:=cells5 H;have a9:=(cells14 O).2.1;refine p _ _ (⟨a9,a7,a8⟩) ?_
 iterate 1 refine wG ?_
 refine VB ?_;clear p0 r z C E i n o j N a4 a5;have aw:=H.lt;go_wp2_with fail;have n:=H.drew;have o:=O.drew;have j:=a6.drew;obtain⟨p0,r,z,C,E⟩:=cells5 n;have i:=(cells14 o).2.1;refine ZT (fun W=>cl W (aq s 1) (pq g)/\cl W w.heap.size (ii sg)) 13 [[0,1,2,3,4,5,6],[7],[8,9,10,11,12]] ⟨i,p0⟩ ?_;simp only[PI];iterate 7 refine wG ?_
 refine JB rq fun K p=>?_;go_wp2_with (refine(a0 _ j).mono ?_;rintro e w3 ⟨rfl,I⟩);have Q:=n.kO I;have R:=o.kO I;have S:=j.tO I;clear p0 r z C E i o j I a7 a8 ar au av a9 H O a6 G;refine p _ _ (⟨(cells14 R).2.1,(cells5 Q).1⟩) ?_
 try simp only[Act.put,PU]
 refine JB rq fun K p=>?_;go_wp2_with (refine(L _ S R).mono ?_;rintro e w4 ⟨u,rfl,hu,aa,T⟩;obtain⟨ax,uc,rfl,_⟩:=XB hu);have ab:=Q.keep T (by simpa using fun e=>a3 e.symm);have ay:=S.trans T (fun x t=>.inl t);clear R S T Q L a0 n;refine p _ _ (⟨(cells14 aa).2.1,(cells5 ab).1⟩) ?_
 iterate 4 refine wG ?_
 refine VB ?_;replace y:=y w4 ax uc (Rd.of_own hu)
 go_wp2_with (
  refine y.mono ?_;clear y;rintro e w5 ⟨rfl,U⟩;have k:=ab.kO (U.alloc (.cells #[ii sg,ii a,ii b,ii f] 383));have ac:=aa.kO (U.alloc (.cells #[ii sg,ii a,ii b,ii f] 383));obtain⟨p0,r,z,C,E⟩:=cells5 k;have c7:=(cells14 ac).2.2.2.2.2.2.2.1;have g0:=k.frozen 0;have g1:=k.frozen 1;have g2:=k.frozen 2;have g3:=k.frozen 3;have g4:=k.frozen 4;have aw:=k.lt)
 have az:=ay.tO (U.alloc (.cells #[ii sg,ii a,ii b,ii f] 383));obtain⟨b0,b1⟩:=YAk k (.int .i64 sg) (.int .i64 1) (.int .i64 b) (.int .i64 f) (.int .i64 a);obtain⟨b2,b3⟩:=YAk b0 (.int .i64 sg) (.int .i64 1) (.int .i64 b) (.int .i64 f) (.int .i64 a);have ad:=b1.trans b3 (fun x t=>.inl t);obtain⟨y0,y1,y2,y3,y4⟩:=cells5 b2;exact Ac (v:=.tuple #[.agg #[ii sg,ii 1,ii b,ii f,ii a],.bool true]) (by simp[results,results382,go_sem,y0,y1,y2,y3,y4]) rfl ⟨rfl,ac.keep ad (uq a3),az.trans ad iq⟩
end
section
open Go.RowKit Go.Shelf
attribute [local go_sem] AW
def PRec.behind (p:PPos) (R:PRec):PPos:=⟨p.seg,p.off+(1+R.blocks.length),R.lsn+1,R.sum,R.mount⟩
structure LiesR (D:PDisk) (B:Nat) (p:PPos) (R:PRec):Prop where
 may:R.May
 lsn:R.lsn=p.lsn
 prev:R.prev=p.prev
 mount:p.mount<=R.mount
 room:p.off+(1+R.blocks.length)<=24
 bytes:∀ k,k<1+R.blocks.length->Go.Proofs.YtfedaknhecbehaaGreat.seg 64 D.now (JC B p.seg+p.off+k)=Go.Proofs.YtfedaknhecbehaaGreat.seg 64 R.bytes k
structure Elder (D:PDisk) (x n L:Nat) (R:PRec):Prop where
 may:R.May
 lsn:R.lsn<L
 room:1+R.blocks.length<=n
 bytes:∀ k,k<1+R.blocks.length->Go.Proofs.YtfedaknhecbehaaGreat.seg 64 D.now (x+k)=Go.Proofs.YtfedaknhecbehaaGreat.seg 64 R.bytes k
def Stale (D:PDisk) (x n L:Nat):Prop:=KT (Go.Proofs.YtfedaknhecbehaaGreat.seg 64 D.now x)\/∃ R,Elder D x n L R
theorem Elder.keepD {x:Nat} {R:PRec} (h:Elder D x n L R) (a:L<=L') (b:∀ y,x<=y->y<x+n->Go.Proofs.YtfedaknhecbehaaGreat.seg 64 D'.now y=Go.Proofs.YtfedaknhecbehaaGreat.seg 64 D.now y):Elder D' x n L' R:=
 ⟨h.may,BP h.lsn a,h.room,fun k c=>by rw[b _ Z (by have:=h.room;omega)];exact h.bytes k c⟩
theorem Stale.keepD {x:Nat} (h:Stale D x n L) (c:0<n) (b:L<=L') (a:∀ y,x<=y->y<x+n->Go.Proofs.YtfedaknhecbehaaGreat.seg 64 D'.now y=Go.Proofs.YtfedaknhecbehaaGreat.seg 64 D.now y):Stale D' x n L':=by
 rcases h with h | ⟨R,h⟩
 . exact .inl (by rw[a x (AG _) Z];exact h)
 exact .inr ⟨R,h.keepD b a⟩
structure OneSt (w:World) (s d g sg:Nat) (q p:PPos) (W:World):Prop where
 lt:s<w.heap.size
 sc:YM W s d g sg q
 pos:Blk W w.heap.size 49 #[ii p.seg,ii p.off,ii p.lsn,ii p.prev,ii p.mount]
 rcd:Blk W (w.heap.size+1) 280 #[zz,zz,zz,zn,zn]
 nxt:Blk W (w.heap.size+1+1) 49 #[zz,zz,zz,zz,zz]
 keep:Keep [s] w W
namespace OneSt
variable {w W W':World} {s d g sg:Nat} {q p:PPos}
theorem kO (h:OneSt w s d g sg q p W) (a:kz W W'):OneSt w s d g sg q p W':=
 ⟨h.lt,Blk.kO h.sc a,h.pos.kO a,h.rcd.kO a,h.nxt.kO a,h.keep.tO a⟩
theorem keepL {l:List Nat} (h:OneSt w s d g sg q p W) (a:Keep l W W') (c:YM W' s d g sg q) (b:∀ x∈l,x=s\/w.heap.size+1+1<x):OneSt w s d g sg q p W':=by
 have f:=h.lt
 exact⟨h.lt,c,h.pos.keep a (fun hm=>by have:=b _ hm;omega),h.rcd.keep a (fun hm=>by have:=b _ hm;omega),h.nxt.keep a (fun hm=>by have:=b _ hm;omega),
  h.keep.trans a (fun x e=>(b x e).elim (fun h=>.inl (by simp[h])) (fun h=>.inr Z))⟩
theorem c1 (h:OneSt w s d g sg q p W):cl W (aq s 1) (pq g):=(cells14 h.sc).2.1
theorem size (h:OneSt w s d g sg q p W):w.heap.size+1+1<W.heap.size:=h.nxt.lt
theorem start (c:YM w s d g sg q):OneSt w s d g sg q p (((w.alloc (.cells #[ii p.seg,ii p.off,ii p.lsn,ii p.prev,ii p.mount] 49)).alloc (.cells #[zz,zz,zz,zn,zn] 280)).alloc (.cells #[zz,zz,zz,zz,zz] 49)):=by
 have e:kz w (w.alloc (.cells #[ii p.seg,ii p.off,ii p.lsn,ii p.prev,ii p.mount] 49)):=kq.alloc _;have b:=(Keep.refl [] (w.alloc (.cells #[ii p.seg,ii p.off,ii p.lsn,ii p.prev,ii p.mount] 49))).alloc (.cells #[zz,zz,zz,zn,zn] 280);have a:=(Keep.refl [] ((w.alloc (.cells #[ii p.seg,ii p.off,ii p.lsn,ii p.prev,ii p.mount] 49)).alloc (.cells #[zz,zz,zz,zn,zn] 280))).alloc (.cells #[zz,zz,zz,zz,zz] 49);refine⟨c.lt,Blk.kO c ((e.tO b).tO a),((Blk.new w _ _).kO b).kO a,(Blk.new1 w _ _ _).kO a,?_,((e.tO b).tO a).zero⟩;have f:=Blk.new1 (w.alloc (.cells #[ii p.seg,ii p.off,ii p.lsn,ii p.prev,ii p.mount] 49)) (.cells #[zz,zz,zz,zn,zn] 280) 49 #[zz,zz,zz,zz,zz]
 rwa [AM] at f
end OneSt
theorem RecHold.keepB {w w':World} {b:Nat} {cs:Array Value} {R:PRec} (h:RecHold w N I Bv R) (c:Blk w b t cs) (g:178≠t) (h2:66≠t) (i:5≠t) (d:Keep [b] w w'):RecHold w' N I Bv R:=by
 obtain⟨hi,ls,j,e,f⟩:=h;exact⟨KA hi d (fun x a hm=>by simp at hm;subst hm;exact own_blk_ne hi c g a),ls,j,KA e d (fun x a hm=>by simp at hm;subst hm;exact own_blk_ne e c h2 a),fun q hq=>KA (f q hq) d (fun x a hm=>by simp at hm;subst hm;exact own_blk_ne (f q hq) c i a)⟩
theorem RecHold.base {w:World} {a:Nat} {R:PRec} (h:RecHold w N I Bv R) (hn:a<=N):RecHold w a I Bv R:=by
 obtain⟨hi,ls,b,c,d⟩:=h;exact⟨VC hi hn,ls,b,VC c hn,fun q hq=>VC (d q hq) hn⟩
theorem Zz {w:World} {s d g B base sg:Nat} {q:PPos} (p:PPos) {R:PRec} {F:List Nat} (hs:YM w s d g sg q) (hg:GeomAt w g B) (h:DiskAt w base d F D) (bv:D.off=false) (hn:D.n=198+4*pgs B) (hf:∀ k,k<D.n->D.faults[k]? = some false)
 (b7:p.seg<=7) (a2:R.May) (b8:p.off+(1+R.blocks.length)<=24) (av:∀ k,k<1+R.blocks.length->Go.Proofs.YtfedaknhecbehaaGreat.seg 64 D.now (JC B p.seg+p.off+k)=Go.Proofs.YtfedaknhecbehaaGreat.seg 64 R.bytes k) (aw:(R.lsn=p.lsn/\R.prev=p.prev/\p.mount<=R.mount)\/¬ R.lsn=p.lsn) (bw:s∉F) (b9:s≠g) :
 Calls prog 383 #[pq s,.agg #[ii p.seg,ii p.off,ii p.lsn,ii p.prev,ii p.mount]] w fun e w'=>
  (R.lsn=p.lsn/\∃ I Bv,e=.returned (.tuple #[.agg #[ii R.mount,ii R.lsn,ii R.prev,I,Bv],
  .agg #[.int .i64 p.seg,.int .i64 (p.off+(1+R.blocks.length):Nat),.int .i64 (R.lsn+1:Nat),.int .i64 R.sum,.int .i64 R.mount],.bool true])/\RecHold w' w.heap.size I Bv R/\YM w' s d g sg q/\Keep [s] w w')\/(¬ R.lsn=p.lsn/\e=.returned (.tuple #[.agg #[zz,zz,zz,zn,zn],.agg #[zz,zz,zz,zz,zz],.bool false])/\YM w' s d g sg q/\Keep [s] w w'):=by
 have a6:=hs.lt;have ce:=(ZD hg.pos hg.few).2;have ba:=fun W (hk:Keep [s] w W)=>ConfigG_is W g B (hg.keep hk (by simpa using fun e=>b9 e.symm));have ax:∀ W,Keep [s] w W->cr 34 #[pq g,ii p.seg] W (ii ((JC B p.seg:Nat))):=fun W hk=>Zg W g B (hg.keep hk (by simpa using fun e=>b9 e.symm)) p.seg b7;have ah:=fun W (hk:Keep [s] w W) (f:YM W s d g sg q) k (cf:k<1+R.blocks.length)=>Km f (h.keep hk (fun x hx hm=>by simp at hm;subst hm;exact bw hx)) bv (JC B p.seg+p.off+k) (by unfold JC;omega) (hf _ (by unfold JC;omega));have cg:=fun W=>KE (P:=prog) underlying28 2 rfl isAgg3 #[ii B,ii 8,ii 24] rfl W;obtain⟨O,r,ac,ai,aj⟩:=p;simp only at b8 b7 ah av aw ⊢;have ch:IntKind.i64.wrap (((R.lsn:Nat):Int)+1)=(R.lsn+1:Nat):=by rw[AI];have:=a2.lsn;omega
 obtain⟨a,ha⟩:=ex (JC B O+r);obtain⟨K,L⟩:=ex (JC B O);have ci:a<=4000:=by rw[ha];unfold JC;omega
 have ak:=ZB a2;have bx:=ZB aw;obtain⟨m,hm⟩:=ex R.blocks.length;have cj:m<=6:=by rw[hm];exact AB a2.few6 a2.few
 have ck:r+(1+m)<=24:=by rw[hm];exact b8
 have al:=PRec.length_bytes a2;rw[<- hm] at ah al ⊢;have bb:=ZB ah;have bc:=ZB hm;obtain⟨bs,ad⟩:=ex R.bytes;rw[<- ad] at al
 have bz:∃ t,Go.Proofs.YtfedaknhecbehaaGreat.seg 64 bs 0=fields (VBC R.mount R.lsn R.prev R.items.length m)++t:=by
  obtain⟨t,ht⟩:=PRec.fields_is a2;refine⟨(YQ R.items++t).take 48,?_⟩;unfold Go.Proofs.YtfedaknhecbehaaGreat.seg;rw[ad,ht,<- hm,DL,Dm,DO];have:(fields (VBC R.mount R.lsn R.prev R.items.length m)).length=16:=by simp[VBC,widths]
  rw[this,AK Z]
 have ay:=ZB av;rw[<- hm,<- ad] at ay;have c2:=ZB ad;have cm:((r:Nat):Int)<24:=Z
 have cn:IntKind.i64.wrap (((K:Nat):Int)+(r:Nat))=(a:Nat):=by rw[AI];omega
 simp only at ax;rw[<- L] at ax;have az:=ZB ha;have co:=ZB L;have f:=OneSt.start (p:=⟨O,r,ac,ai,aj⟩) hs;clear a2 aw av ah ha L hs hm ad;go_enter func383,ntmps383;go_wp2_with fail;generalize (((w.alloc (.cells #[ii O,ii r,ii ac,ii ai,ii aj] 49)).alloc (.cells #[zz,zz,zz,zn,zn] 280)).alloc (.cells #[zz,zz,zz,zz,zz] 49))=w1 at *;replace f:=f.kO (Keep.refl [] w1).drew;obtain⟨p0,j,C,E,G⟩:=cells5 f.pos;have o:=f.c1;refine ZT (fun W=>cl W (aq s 1) (pq g)/\cl W (aq w.heap.size 1) (ii r)) 8 [[0,1,2,3,4,5],[6,7]] ⟨o,j⟩ ?_;simp only[PI];iterate 6 refine wG ?_
 refine JB rq fun K L=>?_;go_wp2_with (refine(ba _ f.keep).mono ?_;rintro e w2 ⟨rfl,ae⟩);replace f:=f.kO ae;clear p0 j C E G o;obtain⟨p0,j,C,E,G⟩:=cells5 f.pos;have o:=f.c1;refine L _ _ (⟨o,j⟩) ?_
 iterate 1 refine wG ?_
 refine VB ?_;go_wp2_with fail;replace f:=f.kO (Keep.refl [] w2).drew;clear p0 j C E G o ae;obtain⟨p0,j,C,E,G⟩:=cells5 f.pos;have o:=f.c1;refine ZT (fun W=>cl W (aq s 1) (pq g)/\cl W w.heap.size (ii O)/\cl W (aq w.heap.size 1) (ii r)) 9 [[0,1,2,3,4,5,7,8],[6]] ⟨o,p0,j⟩ ?_;simp only[PI];iterate 8 refine wG ?_
 refine JB rq fun K L=>?_;go_wp2_with (refine(ax _ f.keep).mono ?_;rintro e w4 ⟨rfl,bd⟩);replace f:=f.kO bd;have c4:=f.size;clear p0 j C E G o;obtain⟨p0,j,C,E,G⟩:=cells5 f.pos;have o:=f.c1;refine L _ _ (⟨o,p0,j⟩) ?_
 try simp only[Act.put,PU]
 refine VB ?_;have N:=ZA bb _ f.keep f.sc 0 Z;simp only[BK] at N;rw[<- ZA az] at N;have a3:=ZA ay 0 Z;rw[BK,<- ZA az] at a3;rw[a3] at N;obtain⟨t0,bf⟩:=bz;go_wp2_with (refine N.mono ?_;clear N;rintro e w5 ⟨u,rfl,Q,bg,bh⟩;obtain⟨af,uc,rfl,_⟩:=XB Q);replace f:=f.keepL bh bg sq;have am:=VBQ uc _ t0 R.mount R.lsn R.prev R.items.length m (Rd.of_own Q) bf (ZA ak).some (ZA ak).few (by have:=(ZA ak).few6;have:=ZA bc;omega);go_wp2_with (refine am.mono ?_;clear am;rintro e w6 ⟨rfl,b0⟩);replace f:=(f.kO b0).kO (Keep.refl [] w6).drew;have bi:=QB (QB Q b0) (Keep.refl [] w6).drew;clear p0 j C E G o;obtain⟨p0,j,C,E,G⟩:=cells5 f.pos;have o:=f.c1;have bj:¬ (1+((m:Nat):Int)=0):=Z
 have l:decide (1+((m:Nat):Int)=0)=false:=AU bj;refine ZT (fun W=>cl W (aq s 1) (pq g)/\cl W (aq w.heap.size 1) (ii r)) 17 [[0,1,2,3,4,5,6,7,8,9,10,11,12,13,14],[15,16]] ⟨o,j⟩ ?_;simp only[PI];iterate 4 refine wG ?_
 refine XV (.bool false) rq (fun W hW=>by go_simp) ?_;simp only[Act.put,PU];iterate 5 refine wG ?_
 have cp:IntKind.i64.wrap (((r:Nat):Int)+(1+(m:Nat)))=(r+(1+m):Nat):=by rw[AI];omega
 refine XV (.int .i64 (r+(1+m):Nat)) rq (fun W hW=>by go_simp) ?_;simp only[Act.put,PU];iterate 4 refine wG ?_
 refine JB rq fun K L=>?_;go_wp2_with (refine(ba _ f.keep).mono ?_;rintro e w7 ⟨rfl,b1⟩);replace f:=f.kO b1;clear p0 j C E G o;obtain⟨p0,j,C,E,G⟩:=cells5 f.pos;have o:=f.c1;refine L _ _ (⟨o,j⟩) ?_
 iterate 1 refine wG ?_
 refine VB ?_;go_wp2_with fail;have bk:=VC (base':=w.heap.size+1+1+1) (QB bi b1) c4;clear p0 j C E G o b1 b0 bh Q bi bg a3 bf bd bj l;have bl:64*(1+m)=bs.length:=al.symm;have bm:=ZB bl;clear bl al
 have bn:w7.ownsRow (w.heap.size+1+1+1) 5 1 (.slice af 64 uc) 64 (bys (bs.take (64*1))):=by
  have:Go.Proofs.YtfedaknhecbehaaGreat.seg 64 bs 0=bs.take (64*1):=by simp[Go.Proofs.YtfedaknhecbehaaGreat.seg]
  rw[<- this];exact bk
 clear bk;go_loopw [8,10] (fun b i wr=>∃ (k z:Nat) (af:Option Addr) (uc:Nat),1<=k/\k<=1+m/\Hid (z=64*k)/\b=.slice af z uc/\i=.int .i64 k/\wr.ownsRow (w.heap.size+1+1+1) 5 1 (.slice af z uc) z (bys (bs.take (64*k)))/\OneSt w s d g sg q ⟨O,r,ac,ai,aj⟩ wr) (fun _ i _=>(1+m)-(intOf i).toNat)
 case atStart=>exact⟨1,64,af,uc,AG _,Z,rfl,rfl,rfl,bn,f⟩
 clear bn f;obtain⟨k,z,bo,vc,cq,cs,hz,rfl,rfl,a7,f⟩:=hrel;by_cases bp:k<1+m
 . have ct:((k:Nat):Int)<1+(m:Nat):=Z
   obtain⟨y,hy⟩:=ex (a+k);have cu:IntKind.i64.wrap (((a:Nat):Int)+(k:Nat))=(y:Nat):=by rw[AI];omega
   have N:=ZA bb wr f.keep f.sc k bp;have a3:=ZA ay k bp;rw[<- ZA az,<- hy] at a3 N;rw[a3] at N;have cv:z<=448:=by have:=ZA hz;omega
   have a6:(Go.Proofs.YtfedaknhecbehaaGreat.seg 64 bs k).length=64:=length_seg 64 bs k (by have:=ZA bm;omega)
   have bq:bs.take (64*(k+1))=bs.take (64*k)++Go.Proofs.YtfedaknhecbehaaGreat.seg 64 bs k:=by
    unfold Go.Proofs.YtfedaknhecbehaaGreat.seg;rw[CM k 64,show 64*(k+1)=64*k+64 from Z,List.take_add]
   have c5:=ZB bq;have am:=ZB (ZA hz);clear hy a3 bq a6 hz
   go_wp2_with (first
    | (go_at_call 424
       refine N.mono ?_;clear N;rintro e w2 ⟨u,rfl,Q,c6,ae⟩;obtain⟨c7,xc,rfl,_⟩:=XB Q;have an:=f.keepL ae c6 sq;have a8:=KA a7 ae (fun x hx hm=>by simp at hm;subst hm;exact own_blk_ne a7 f.sc (by decide) hx)
       have cw:=an.size)
    | (at_builtin;refine elem8.wp_app rfl (.tmp 82) (.tmp 83) rfl (w.heap.size+1+1+1) (.slice bo z vc) z _ rfl a8 c7 64 xc _ rfl (Rd.of_own Q) (fun u Q=>by obtain⟨q,_,rfl⟩:=C8.1 Q;rfl) Z Z Z ?_;rintro cx w3 br bt _ _))
   obtain⟨c8,yc,rfl,_⟩:=XB br;go_roundw
   case rel=>
    have c9:∀ x∈(Value.slice bo z vc).ownBlock.toList,w.heap.size+1+1<x:=fun x hx=>(own_mem a7 hx).1;refine⟨k+1,z+64,c8,yc,Z,Z,by have:=ZA am;simp only[Hid];omega,rfl,by go_num,?_,an.keepL bt (Blk.keep an.sc bt (fun hm=>own_blk_ne a8 an.sc (by decide) (uq hm))) (fun x hx=>.inr (c9 x hx))⟩;rw[ZA c5,Zq];exact br
   case measure=>simp[intOf];omega
 obtain rfl:k=1+m:=Z
 obtain⟨gv,cy,he,cz⟩:=JI a7 (by have:=ZA hz;omega);cases he;have ao:=ZA hz;have ap:=ZA bc;have a8:=a7;rw[AK (by rw[<- ZA bm];exact AG _),ZA c2,ao] at a8;have b2:=KBa gv 0 vc (ZA ak) (w:=wr) ((YAw a7)) (by rw[<- ap];exact Rd.of_own a8) (by rw[<- ap];omega);rw[<- ap,<- ao] at b2;have d0:=ZB ao;clear ao a8 ap hz
 have ca:(R.lsn=ac/\R.prev=ai/\((aj:Nat):Int)<=(R.mount:Nat))\/¬ ((R.lsn:Nat):Int)=(ac:Nat):=by
  rcases ZA bx with⟨h1,h2,h3⟩ | h1
  . exact .inl ⟨h1,h2,Z⟩
  exact .inr Z
 rcases ca with⟨rfl,rfl,d1⟩ | d2
 all_goals
  go_wp2_with (
   refine b2.mono ?_;clear b2;rintro e w8 ⟨I,Bv,rfl,ar,bu⟩;obtain⟨a9,ic,rfl,_⟩:=XB ar.its;obtain⟨S,T,U,rfl⟩:∃ S T U,Bv=.slice S T U:=by obtain⟨ls,-,h2,-⟩:=ar.bls;obtain⟨A,c,h,_⟩:=XB h2;exact⟨A,_,c,h⟩
   have J:=f.kO bu;obtain⟨V,X,Y,z3,z4⟩:=VD J.rcd;obtain⟨p0,j,C,E,G⟩:=cells5 J.pos;have f0:=J.rcd.frozen 0;have f1:=J.rcd.frozen 1;have f2:=J.rcd.frozen 2;have f3:=J.rcd.frozen 3;have f4:=J.rcd.frozen 4)
  obtain⟨l,aa⟩:=YAk J.rcd (.int .i64 (R.mount:Nat)) (.int .i64 (R.lsn:Nat)) (.int .i64 (R.prev:Nat)) (.slice a9 R.items.length ic) (.slice S T U);have ag:=ar.keepB J.rcd (by decide) (by decide) (by decide) aa;have ab:=J.pos.keep aa sq;have a0:=J.nxt.keep aa sq;have a4:=Blk.keep J.sc aa (by have:=J.lt;simp;omega);have a5:=J.keep.trans aa iq;have d3:w.heap.size+1+1<w8.heap.size:=J.size;clear V X Y z3 z4 p0 j C E G f0 f1 f2 f3 f4 ar bu aa;generalize (((((w8.setCell ⟨w.heap.size+1,0,none⟩ (.int .i64 (R.mount:Nat))).setCell ⟨w.heap.size+1,1,none⟩ (.int .i64 (R.lsn:Nat))).setCell ⟨w.heap.size+1,2,none⟩ (.int .i64 (R.prev:Nat))).setCell ⟨w.heap.size+1,3,none⟩ (.slice a9 R.items.length ic)).setCell ⟨w.heap.size+1,4,none⟩ (.slice S T U))=w9 at *
 . have H:=(Keep.refl [] w9).drew
   obtain⟨V,X,Y,z3,z4⟩:=VD (l.kO H);obtain⟨p0,j,C,E,G⟩:=cells5 (ab.kO H);refine ZT (fun W=>cl W ⟨w.heap.size+1,0,none⟩ R.mount/\cl W ⟨w.heap.size+1,1,none⟩ R.lsn/\cl W ⟨w.heap.size+1,2,none⟩ R.prev/\cl W ⟨w.heap.size+1,3,none⟩ (.slice a9 R.items.length ic)/\cl W ⟨w.heap.size+1,4,none⟩ (.slice S T U)/\cl W w.heap.size O/\cl W (aq w.heap.size 1) r) 15 [[0,1,2,3,4,5,6,7,8,9,10,11,12,13],[14]] ⟨V,X,Y,z3,z4,p0,j⟩ ?_;simp only[PI];iterate 14 refine wG ?_
   refine JB rq fun K L=>?_;replace l:=l.kO H;replace ag:=ag.kO H;replace ab:=ab.kO H;replace a0:=a0.kO H;replace a4:=Blk.kO a4 H;replace a5:=a5.tO H;clear H;generalize w9.drew=wa at *;have b3:=l.lt;have f0:=l.frozen 0;have f1:=l.frozen 1;have f2:=l.frozen 2;have f3:=l.frozen 3;have f4:=l.frozen 4;go_wp2_with fail;obtain⟨au,M⟩:=YAk l (.int .i64 (R.mount:Nat)) (.int .i64 (R.lsn:Nat)) (.int .i64 (R.prev:Nat)) (.slice a9 R.items.length ic) (.slice S T U);have cb:=ag.keepB l (by decide) (by decide) (by decide) M;have cc:=ab.keep M sq;have n:=a0.keep M sq;have b4:=Blk.keep a4 M (by have:=a6;simp;omega);have b5:=a5.trans M iq;clear V X Y z3 z4 p0 j C E G f0 f1 f2 f3 f4;obtain⟨V,X,Y,z3,z4⟩:=VD au;obtain⟨p0,j,C,E,G⟩:=cells5 cc;refine L _ _ (⟨V,X,Y,z3,z4,p0,j⟩) ?_
   try simp only[Act.put,PU]
   refine VB ?_;clear M l ab a0 a4 a5 ag b3;generalize (((((wa.setCell ⟨w.heap.size+1,0,none⟩ (.int .i64 (R.mount:Nat))).setCell ⟨w.heap.size+1,1,none⟩ (.int .i64 (R.lsn:Nat))).setCell ⟨w.heap.size+1,2,none⟩ (.int .i64 (R.prev:Nat))).setCell ⟨w.heap.size+1,3,none⟩ (.slice a9 R.items.length ic)).setCell ⟨w.heap.size+1,4,none⟩ (.slice S T U))=wb at *;have f0:=n.frozen 0;have f1:=n.frozen 1;have f2:=n.frozen 2;have f3:=n.frozen 3;have f4:=n.frozen 4;have cd:=n.lt;obtain⟨n0,n1,n2,n3,n4⟩:=cells5 n;go_wp2_with fail;obtain⟨b6,a1⟩:=YAk n (.int .i64 (O:Nat)) (.int .i64 ((r:Nat)+(1+(m:Nat)))) (.int .i64 ((R.lsn:Nat)+1)) (.int .i64 (R.sum:Nat)) (.int .i64 (R.mount:Nat));obtain⟨y0,y1,y2,y3,y4⟩:=cells5 b6;obtain⟨x0,x1,x2,x3,x4⟩:=VD (au.keep a1 sq)
   refine Ac (v:=.tuple #[.agg #[R.mount,R.lsn,R.prev,.slice a9 R.items.length ic,.slice S T U],.agg #[ii O,ii ((r:Nat)+(1+(m:Nat))),ii ((R.lsn:Nat)+1),ii R.sum,ii R.mount],.bool true])
    (by simp[results,results383,go_sem,x0,x1,x2,x3,x4,y0,y1,y2,y3,y4]) rfl ⟨_,_,by push_cast;rfl,(cb.keepB n (by decide) (by decide) (by decide) a1).base ?_,Blk.keep b4 a1 (by have:=a6;simp;omega),b5.trans a1 iq⟩
   have:=f.size;omega
 have H:=(Keep.refl [] w9).drew
 obtain⟨n0,n1,n2,n3,n4⟩:=cells5 (a0.kO H);refine ZT (fun W=>cl W ⟨w.heap.size+1+1,0,none⟩ zz/\cl W ⟨w.heap.size+1+1,1,none⟩ zz/\cl W ⟨w.heap.size+1+1,2,none⟩ zz/\cl W ⟨w.heap.size+1+1,3,none⟩ zz/\cl W ⟨w.heap.size+1+1,4,none⟩ zz) 3 [[0,1],[2]] ⟨n0,n1,n2,n3,n4⟩ ?_;simp only[PI];iterate 2 refine wG ?_
 refine JB rq fun K L=>?_;replace l:=l.kO H;replace a0:=a0.kO H;replace a4:=Blk.kO a4 H;replace a5:=a5.tO H;clear H ag ab;generalize w9.drew=wa at *;have b3:=l.lt;obtain⟨V,X,Y,z3,z4⟩:=VD l;have f0:=l.frozen 0;have f1:=l.frozen 1;have f2:=l.frozen 2;have f3:=l.frozen 3;have f4:=l.frozen 4;go_wp2_with fail;obtain⟨au,M⟩:=YAk l (.int .i64 0) (.int .i64 0) (.int .i64 0) (.slice none 0 0) (.slice none 0 0);have n:=a0.keep M sq;have b4:=Blk.keep a4 M (by have:=a6;simp;omega);have b5:=a5.trans M iq;clear n0 n1 n2 n3 n4 V X Y z3 z4 f0 f1 f2 f3 f4 M b3;obtain⟨n0,n1,n2,n3,n4⟩:=cells5 n;refine L _ _ (⟨n0,n1,n2,n3,n4⟩) ?_
 try simp only[Act.put,PU]
 refine VB ?_;generalize (((((wa.setCell ⟨w.heap.size+1,0,none⟩ (.int .i64 0)).setCell ⟨w.heap.size+1,1,none⟩ (.int .i64 0)).setCell ⟨w.heap.size+1,2,none⟩ (.int .i64 0)).setCell ⟨w.heap.size+1,3,none⟩ (.slice none 0 0)).setCell ⟨w.heap.size+1,4,none⟩ (.slice none 0 0))=wb at *;have f0:=n.frozen 0;have f1:=n.frozen 1;have f2:=n.frozen 2;have f3:=n.frozen 3;have f4:=n.frozen 4;have cd:=n.lt;go_wp2_with fail;obtain⟨b6,a1⟩:=YAk n (.int .i64 0) (.int .i64 0) (.int .i64 0) (.int .i64 0) (.int .i64 0);obtain⟨y0,y1,y2,y3,y4⟩:=cells5 b6;obtain⟨x0,x1,x2,x3,x4⟩:=VD (au.keep a1 sq)
 exact Ac (v:=.tuple #[.agg #[zz,zz,zz,zn,zn],.agg #[zz,zz,zz,zz,zz],.bool false])
  (by simp[results,results383,go_sem,x0,x1,x2,x3,x4,y0,y1,y2,y3,y4]) rfl (.inr ⟨Z,rfl,Blk.keep b4 a1 (by have:=a6;simp;omega),b5.trans a1 iq⟩)
theorem QAn {w:World} {s d g B base sg:Nat} {q p:PPos} {R:PRec} {F:List Nat} (b:YM w s d g sg q) (hg:GeomAt w g B) (h:DiskAt w base d F D) (c:D.off=false) (hn:D.n=198+4*pgs B) (f:∀ k,k<D.n->D.faults[k]? = some false)
 (i:p.seg<=7) (a:LiesR D B p R) (j:s∉F) (l:s≠g) :
 Calls prog 383 #[pq s,.agg #[ii p.seg,ii p.off,ii p.lsn,ii p.prev,ii p.mount]] w fun e w'=>∃ I Bv,e=.returned (.tuple #[.agg #[ii R.mount,ii R.lsn,ii R.prev,I,Bv],
  .agg #[.int .i64 p.seg,.int .i64 (p.off+(1+R.blocks.length):Nat),.int .i64 (R.lsn+1:Nat),.int .i64 R.sum,.int .i64 R.mount],.bool true])/\RecHold w' w.heap.size I Bv R/\YM w' s d g sg q/\Keep [s] w w':=by
 refine(Zz p b hg h c hn f i a.may a.room a.bytes (.inl ⟨a.lsn,a.prev,a.mount⟩) j l).mono ?_;rintro e w' (⟨_,h⟩ | ⟨h,_⟩)
 . exact h
 exact absurd a.lsn h
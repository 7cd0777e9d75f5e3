/- Lemmas of the proof, with their conditions. -/
import Derived.Test.YtfedaknhecbehaaGreatL33
import Derived.Test.YtfedaknhecbehaaGreatL22
namespace Go.Proofs.YtfedaknhecbehaaGreat
open Tryz Go.RowKit Go.Shelf
variable {k j view b n len c e:Nat} {od:List Bool} {us:List (Nat×Nat)} {lv Fx:List Nat} {S':PS} {A:Option Addr} {D:PDisk} {R:RS} {ops:Nat->POp} {sl:List PSlot} {v:Value} {o:Option (List UInt8)} {xs:List UInt8} {spare:Bool}
set_option linter.all false
set_option maxHeartbeats 4000000
set_option maxRecDepth 40000
def Checked (B:Nat) (S:PS) (S':PS):Prop:=
 ∃ D1 us1 W1 D' l0 l1,Emitted B S.D S.us S.W D1 us1 W1/\MetaD (6+4*pgs B) D1 D' (2*pgs B+4)/\(∀ x∈l0,x<=1)/\(∀ x∈l1,x<=1) /\
   S'=⟨D',KU us1 S.lv 8,S.lv,W1,⟨S.I.bl,List.replicate S.I.bd.length false,S.I.ol,List.replicate S.I.od.length false⟩,{ S.st with gen:=S.st.gen+1 },1-S.slot,l0,l1⟩
def Forgot (B:Nat) (S:PS) (view mode:Nat) (od:List Bool):PS:=
 { S with lv:=Kg B S.lv 0 (VAC S.I.ol S.I.ol.length),I:=⟨S.I.bl,S.I.bd,Ql S.I.ol S.I.ol.length,od⟩,st:={ S.st with seq:=S.st.done,view:=view,mode:=mode } }
def Raised (B:Nat) (S:PS) (view mode:Nat) (S':PS):Prop:=∃ od,Checked B (Forgot B S view mode od) S'
theorem JBe (B s:Nat) (ol:List Int):(VAC ol ol.length).countP (QM B s)=ol.countP (QM B s):=by
 unfold VAC;rw[AH (AG _)]
 induction ol with
 | nil=>rfl
 | cons o ol ih=>
   rw[At,DQ,ih,Bu];have c:QM B s (QF o (-1))=QM B s o:=Yh (fun h=>Z);rw[<- c];generalize QF o (-1)=g;by_cases b:0<g
   . rw[AP b,Bu,Do];omega
   rw[AL b,VK (a:=g) Z];simp
theorem Forgot.good {B:Nat} {S:PS} {mode:Nat} (a:Good B S k j):Good B (Forgot B S view mode od) k j/\QD B (Forgot B S view mode od)=QD B S/\JF B (Forgot B S view mode od)=List.replicate B none:=by
 have b:=a.ol;refine⟨⟨a.cap,a.now,a.many,a.flt,a.flen,a.b1,a.b64,a.bl,?_,a.brefs,?_,?_,a.epoch,AG _⟩,rfl,?_⟩
 . simp only[Forgot,VP,Ai];exact b
 . intro x c
   simp only[Forgot,VP] at c;exact .inl (AV c)
 . have:=a.seq;have:=a.done;simp only[Forgot];omega
 unfold JF;simp only[Forgot,VP,C3,AP];rw[b]
theorem Forgot.ext {B:Nat} {S:PS} {mode:Nat} (d:Good B S k j) (b:Ext B S):Ext B (Forgot B S view mode od):=by
 have hm:=fun s=>LiveOk.small b.liv d s;obtain⟨e,f⟩:=YZ (B:=B) (a:=0) (zs:=VAC S.I.ol S.I.ol.length) b.liv.len hm Z;refine⟨b.segs,⟨e,fun s c=>?_,fun i hi=>?_⟩,b.slot,b.lie0,b.lie1⟩
 . simp only[Forgot]
   rw[f s c,b.liv.live s c,JBe,VK (a:=((0:Nat):Int)) Z];unfold VZ;simp only;rw[VP,DT,VK (a := -1) Z];simp only[Aj,Bt];omega
 simp only[Forgot] at hi ⊢;rw[VP,AB,Ay] at hi
 split at hi <;> simp at hi
theorem Zr (us:List (Nat×Nat)) (lv:List Nat) (k s:Nat) (c:s<us.length):(KU us lv k).getD s (0,0)=if s<k/\Qc us lv s=true then (0,(us.getD s (0,0)).2) else us.getD s (0,0):=by
 induction k with
 | zero=>rw[AL Z];rfl
 | succ k ih=>
   simp only[KU];by_cases hi:Qc us lv k=true
   . rw[AP hi]
     unfold VE;rw[AB,BT];by_cases e:k=s
     . subst e
       rw[AP rfl,AP (by rw[KV];exact c),AP ⟨Z,hi⟩,JBE us lv k k (AG _)];rfl
     rw[AL e,<- AB,ih];by_cases h:s<k/\Qc us lv s=true
     . rw[AP h,AP ⟨Z,h.2⟩]
     rw[AL h,AL (fun a=>h ⟨Z,a.2⟩)]
   rw[AL hi,ih];by_cases h:s<k/\Qc us lv s=true
   . rw[AP h,AP ⟨Z,h.2⟩]
   rw[AL h,AL (fun a=>h ⟨by
    rcases BP s k with b | b
    . exact b
    have:s=k:=Z;subst this;exact absurd a.2 hi,a.2⟩)]
theorem Zj {s:Nat} (h:Qc us lv s=true):(us.getD s (0,0)).1=2/\lv.getD s 0=0:=by
 simpa [Qc] using h
theorem QAS {s:Nat} (h:VT us s):VT (KU us lv 8) s:=by
 obtain⟨d,e,b⟩:=h;have c:=KV us lv 8;refine⟨c.trans d,fun u f=>?_,fun k a=>?_⟩
 . obtain⟨i,hi,rfl⟩:=List.getElem_of_mem f
   rw[<- JI hi,Zr us lv 8 i Z];have:=e _ (AQ (n:=i) Z);rw[JI Z]
   split
   . exact⟨sq,this.2⟩
   exact this
 rw[<- JI a,Zr us lv 8 k Z];rw[c] at a
 split
 . rename_i h
   have:=(Zj h.2).1;rw[JI a] at this;have g:=b k a;simp only;constructor
   . intro h;omega
   intro h;have:=g.2 h;omega
 rw[JI a];exact b k a
theorem QBD (us:List (Nat×Nat)) (lv:List Nat) (k:Nat) (a:k<=us.length):YD us<=YD (KU us lv k):=by
 induction k with
 | zero=>exact AG _
 | succ k ih=>
   have hi:=ih Z;simp only[KU]
   split
   . have:=JQ (KU us lv k) k 0 (by rw[KV];omega)
     simp at this
     split at this <;> omega
   exact hi
theorem Checked.good {B:Nat} {S:PS} (h:Checked B S S') (b:Good B S k j) (d:Ext B S) (U:j<=100000) :
 Good B S' k (j+1)/\Ext B S'/\QD B S'=QD B S/\JF B S'=JF B S/\S'.st={ S.st with gen:=S.st.gen+1 }:=by
 obtain⟨w,f,g,D',o,p,i,e,y,z,rfl⟩:=h;have V:=b.cap.lsn;have W:=JD b.b1 b.b64;obtain⟨A,C,r,D,X,E,Y,F,e9,a0,a1⟩:=b.cap.emitted i;have G:=i.segs d.segs Z;obtain⟨t,H⟩:=i.reads b.cap.ok b.now b.many b.cap.seg b.cap.off;obtain⟨_,_,_,_,_,_,_,_,_,_,_,u,_,_,v⟩:=i.facts b.cap.ok;have a2:=b.cap.ul;have J:w.n=198+4*pgs B:=u.trans b.many
 -- what is read, and lies
 have K:∀ x:Nat,0<x->((x:Int)∈S.I.bl\/(x:Int)∈S.I.ol)->Lies B S.us S.W x->Lies B (KU f S.lv 8) g x/\JK B D' g x=JK B S.D S.W x:=by
  intro x a3 L l;obtain⟨b1,M⟩:=H x l;have N:(x-(6+4*pgs B)) / 24<8:=by have:=l.hi;omega
  refine⟨⟨b1.lo,b1.hi,?_,b1.here⟩,?_⟩
  . rw[Zr f S.lv 8 _ Z]
    split
    . rename_i hi
      have n:=(Zj hi.2).2;rw[d.liv.live _ N] at n;have:=QBJ (B:=B) (I:=S.I) (a:=(x:Int)) L Z;simp only[BK] at this;omega
    exact b1.used
  rw[<- M];unfold JK
  split
  . rfl
  exact e.now (by rw[t]) x b1.lo
 have m:∀ a:Int,(a∈S.I.bl\/a∈S.I.ol)->RefOk B S a->RefOk B ⟨D',KU f S.lv 8,S.lv,g,⟨S.I.bl,List.replicate S.I.bd.length false,S.I.ol,List.replicate S.I.od.length false⟩,{ S.st with gen:=S.st.gen+1 },1-S.slot,o,p⟩ a /\
  ZF B ⟨D',KU f S.lv 8,S.lv,g,⟨S.I.bl,List.replicate S.I.bd.length false,S.I.ol,List.replicate S.I.od.length false⟩,{ S.st with gen:=S.st.gen+1 },1-S.slot,o,p⟩ a=ZF B S a:=by
  intro a O P;rcases P with rfl | ⟨n,l⟩
  . exact⟨.inl rfl,by unfold ZF;rw[AP rfl,AP rfl]⟩
  obtain⟨Q,R⟩:=K a.toNat Z (by rw[show ((a.toNat:Nat):Int)=a from Z];exact O) l;refine⟨.inr ⟨n,Q⟩,?_⟩;unfold ZF;rw[AL Z,AL Z];exact R
 obtain⟨c,s,T,c2,a4⟩:=b.cap.cs;refine⟨⟨⟨A,by simp only;rw[KV];exact C,by simp only;rw[r];exact b.cap.seg,D,?_,⟨c,s,T,?_,?_⟩,?_,?_⟩,?_,?_,?_,?_,b.b1,b.b64,b.bl,b.ol,?_,?_,?_,?_,b.done⟩,⟨?_,⟨d.liv.len,d.liv.live,d.liv.diff⟩,by simp only;omega,y,z⟩,?_,?_,rfl⟩
 . simp only
   have a5:=b.cap.seg;rw[Zr f S.lv 8 _ Z]
   split
   . rename_i hi
     have:=(Zj hi.2).1;omega
   exact E
 . have:Qa g=g.pos.off:=by unfold Qa;rw[AP F]
   simp only;rw[this];omega
 . have:=QBD f S.lv 8 Z
   simp only;omega
 . have:=e.acts;have:=b.cap.acts;simp only;omega
 . have:=b.cap.lsn;simp only;omega
 . simp only
   rw[e.n];exact e.nlen t
 . simp only;rw[e.n];exact J
 . simp only;rw[e.flt,v];exact b.flt
 . simp only;rw[e.flt,v,e.n,u];exact b.flen
 . exact fun x d=>(m x (.inl d) (b.brefs x d)).1
 . exact fun x d=>(b.orefs x d).imp id (fun h=>(m x (.inr d) h).1)
 . have:=b.seq;simp only;omega
 . have:=b.epoch;simp only;omega
 . simp only
   rw[r];exact QAS G
 . exact DE (fun x d=>(m x (.inl d) (b.brefs x d)).2)
 refine DE (fun x d=>?_)
 split
 . rfl
 rename_i h;rw[(m x (.inr d) ((b.orefs x d).resolve_left h)).2]
theorem Raised.good {B:Nat} {S:PS} {mode:Nat} (h:Raised B S view mode S') (a:Good B S k j) (b:Ext B S) (c:j<=100000) :
 Good B S' k (j+1)/\Ext B S'/\QD B S'=QD B S/\JF B S'=List.replicate B none/\S'.st={ S.st with seq:=S.st.done,view:=view,mode:=mode,gen:=S.st.gen+1 }/\S'.I.ol=List.replicate B (-1):=by
 obtain⟨od,h⟩:=h;obtain⟨d,e,f⟩:=Forgot.good (view:=view) (mode:=mode) (od:=od) a;obtain⟨g,i,l,m,n⟩:=h.good d (Forgot.ext a b) c;refine⟨g,i,l.trans e,m.trans f,n,?_⟩;obtain⟨o,p,r,D',s,t,u,v,w,y,rfl⟩:=h;simp only[Forgot,VP];rw[a.ol]
theorem QBV {B:Nat} {S:PS} (ol:List Int) (h:∀ x∈ol,x = -1\/RefOk B S x):∀ x∈VAC ol ol.length,x<=0\/(6+4*pgs B<=x.toNat/\x.toNat<198+4*pgs B):=by
 intro x a;unfold VAC at a;obtain⟨p,b,a⟩:=Bk.1 a
 split at a
 . simp only[Ak] at a
   subst a;exact Kc (h _ (CI b))
 cases a
theorem VAG {B:Nat} {S:PS} (f:S.W.pos.Ok) (a:Good B S k j) (g:Ext B S) (p:j<=100000) (r:S.st.gen<=100000) (i:1<=S.st.view/\S.st.view<=2147483647) (hm:S.st.mode=1\/S.st.mode=2) :
 ∀ c d b,Emitted B S.D S.us S.W c d b->PReg.May ⟨S.st.gen+1,S.st.view,S.st.mode,S.st.epoch,S.st.seq,S.st.done,b.pos⟩/\VT (KU d S.lv 8) b.pos.seg/\c.acts<=8000100:=by
 intro c d b e;obtain⟨s,t,l,m,u,v,w,y,z,A,C⟩:=a.cap.emitted e;obtain⟨_,_,_,D,E,_,_,_,_,_,n,_⟩:=e.facts a.cap.ok;obtain⟨F,G,H,I,J⟩:=f;have K:=a.cap.lsn;have L:=a.cap.acts;have M:=a.seq;have N:=a.epoch;have o:=a.done;refine⟨⟨⟨by simp only;omega,by simp only;omega⟩,i,hm,by simp only;omega,by simp only;omega,o,⟨by simp only;omega,m,⟨by simp only;omega,by simp only;omega⟩,?_,by simp only;omega⟩⟩,?_,Z⟩
 . simp only
   rcases n with h | h
   . omega
   exact h
 rw[l];exact QAS (e.segs g.segs Z)
theorem VBF {w:World} {base s d:Nat} {F:List Nat} {B:Nat} {S:PS} (h:StoreAt w base s d F B S) (b:Good B S k j) (a:Ext B S) (hj:j<=100000) (hm:S.st.mode=1) (am:S.st.gen<=100000) (view mode:Nat) (hv:S.st.view<view) (an:view<=2147483647) (ao:mode=1\/mode=2) :
 Calls prog 126 #[pq s,view,mode] w fun r w'=>r=.returned zz/\∃ F' S',StoreAt w' base s d F' B S'/\Raised B S view mode S'/\Keep F w w'/\Grow w F F':=by
 obtain⟨g,t,p,m,Fd,Ft,Fw,Fm,L0,L1,h,rfl⟩:=h;have o:=JAT h.img;have a3:=QBV S.I.ol b.orefs;have ap:=Yy S.I.ol S.I.ol.length;have a4:=b.ol;have b7:=b.b64;have y:=Ku w base d Fd S.D h.log.disk;rw[h.log.off] at y;have ar:=h.blk;have au:=h.log.pos;obtain⟨A,C,D,E,H,f,I,J,K,L,M,N,O,P,Q,R,T,U⟩:=KC ar;obtain⟨fg,V⟩:=ex (VAC S.I.ol S.I.ol.length);rw[<- V] at o a3 ap;rw[hm] at f;have av:=JB V;clear V;have b8:¬ ((view:Nat):Int)<=(S.st.view:Nat):=Z;have b9:¬ ((view:Nat):Int)<1:=Z;have ba:¬ (2147483647:Int)<((view:Nat):Int):=Z;have aw:∀ x∈Ft,x<w.heap.size:=fun x a=>h.log.tab.lt x a;have bb:s∉Fm:=fun hm=>h.aps (by simp[hm]);have bc:s∉Ft:=fun hm=>h.aps (by simp[hm]);have ax:=JB a4;clear a4;go_enter func126,ntmps126;rcases ao with rfl | rfl
 all_goals
  go_wp2_with (first
   | (go_at_call 134
      refine y.mono ?_;clear y
      rintro e w' ⟨rfl,rfl⟩)
   | (go_at_call 248
      refine o.mono ?_;clear o A C D E H f I J K L M N O P Q R T U;rintro e w1 ⟨G,od,rfl,W,ay,a5⟩;obtain⟨az,gc,rfl,_⟩:=ZB W;have b0:=h.setImg ay sq a5
      have a6:=Yf w1 base s d g t p m Fd Ft Fw Fm L0 L1 B _ b0 0 (.inl rfl) az fg.length gc fg (Rd.of_own W) a3 (by have:=JA ax;omega) (fun x a hm=>by
       have:=aw _ hm;have:=(own_mem W (g:=x.block) (by rw[a];simp[Value.ownBlock])).1
       omega))
   | (go_at_call 107
      refine a6.mono ?_;clear a6;rintro e i ⟨rfl,X,b1⟩;have c:=X.blk;have f5:=c.frozen 5;have f6:=c.frozen 6;have f8:=c.frozen 8;obtain⟨A,C,D,E,H,f,I,J,K,L,M,N,O,P,Q,R,T,U⟩:=KC c))
  have a7:∀ z:Int,Keep [s] i (((i.setCell (aq s 8) (.int .i64 (S.st.done:Nat))).setCell (aq s 6) (.int .i64 (view:Nat))).setCell (aq s 5) (.int .i64 z)):=fun z=>
   (((Keep.refl [s] i).sc s 8).sc s 6).sc s 5
  have b2:∀ z:Nat,StoreIs (((i.setCell (aq s 8) (.int .i64 (S.st.done:Nat))).setCell (aq s 6) (.int .i64 (view:Nat))).setCell (aq s 5) (.int .i64 (z:Nat))) base s d g t p m Fd Ft Fw Fm L0 L1 B (Forgot B S view z od):=fun z=>by
   have b3:=((c.set 8 (.int .i64 (S.st.done:Nat))).set 6 (.int .i64 (view:Nat))).set 5 (.int .i64 (z:Nat));have:=X.setSt { S.st with seq:=S.st.done,view:=view,mode:=z } (uq b3) (a7 z);unfold Forgot;rw[<- JA av];exact this
  have Y:∀ z:Nat,z=1\/z=2->_:=fun z hz=>KAM (b2 z) b.cap.ok (by have:=b.cap.lsn;simp only[Forgot];omega) (by have:=b.cap.acts;simp only[Forgot];omega) a.slot a.lie0 a.lie1
   (VAG au (Forgot.good b).1 (Forgot.ext b a) hj am ⟨by simp only[Forgot];omega,an⟩ hz)
  have a0:=Y 1 (.inl rfl);have a1:=Y 2 (.inr rfl);clear Y A C D E H f I J K L M N O P Q R T U X
  go_wp2_with (first
   | (refine a0.mono ?_;clear a0 a1;rintro e w3 ⟨u,n,ns,a8,Fw',a9,aa,ab,ac,ad,D',l0,l1,rfl,hu,ae,af,ag,ah,ai,aj,ak⟩)
   | (refine a1.mono ?_;clear a0 a1;rintro e w3 ⟨u,n,ns,a8,Fw',a9,aa,ab,ac,ad,D',l0,l1,rfl,hu,ae,af,ag,ah,ai,aj,ak⟩))
  go_ret;have a2:∀ {l:List Nat} {u v:World},(∀ x∈l,x=s\/x∈Fd\/x∈Ft\/x∈Fw\/x∈Fm)->Keep l u v->Keep (ZN s g Fd Ft Fw Fm L0 L1) u v:=fun hl hk=>hk.sub (YAt hl);have b4:=a2 (by intro x a;simp[a]) a5;have b5:=b4.trans (a2 (by intro x a;simp[a]) b1) (fun x a=>.inl a);have al:=fun z=>b5.trans (a2 (by intro x a;simp at a;simp[a]) (a7 z)) (fun x a=>.inl a);have b6:=(al _).trans aj (fun x a=>.inl a);exact⟨rfl,_,_,⟨g,t,p,m,a8,Ft,Fw',Fm,a9,aa,ai,rfl⟩,⟨od,ab,ac,ad,D',l0,l1,ae,af,ag,ah,rfl⟩,b6,ak.keep (al _)⟩
theorem VBj {w:World} {base m d f:Nat} {F c g:List Nat} {I:PImage} (h:ImageIs w base m d f F c g I) (b a:Nat) (i:b<I.bl.length) (j:1<=a/\a<4096) :
 Calls prog 243 #[pq m,.bool false,b,a] w fun e w'=>e=.returned (.tuple #[ii (QF I.bl[b] a),.bool true])/\PagedAt w' base d c (I.bl.set b a) (KF I.bl I.bd b a)/\Keep c w w':=by
 have k:=Qp w base m d f F c g I h b 1 (AG _) (by exact i);have l:=JN w base m d f F c g I h false;have n:=Vr h.b b i a;obtain⟨r,s⟩:=j;have t:(1:Int)<=(a:Nat):=Z;have u:((a:Nat):Int)<4096:=Z;generalize QF I.bl[b] a=y at *;go_enter func243,ntmps243;go_wp2_with (first | (go_at_call 328;refine k.mono ?_;rintro e w' ⟨rfl,rfl⟩) | (go_at_call 230;refine l.mono ?_;rintro e w' ⟨rfl,rfl⟩) | (go_at_call 240;refine n.mono ?_;rintro e w1 ⟨rfl,o,p⟩));go_ret2;exact⟨rfl,o,p⟩
theorem KBa {w:World} {base m:Nat} {F:List Nat} {I:PImage} (h:ImageAt w base m F I) (b a:Nat) (d:b<I.bl.length) (g:1<=a/\a<4096) :
 Calls prog 246 #[pq m,b,a] w fun e w'=>e=.returned (.tuple #[ii (QF (I.bl.getD b 0) a),.bool true])/\ImageAt w' base m F { I with bl:=I.bl.set b a,bd:=KF I.bl I.bd b a }/\Keep F w w':=by
 obtain⟨i,j,k,l,h⟩:=h;have n:=VBj h b a d g;rw[Yg d];generalize QF I.bl[b] a=y at *;go_enter func246,ntmps246;go_wp2_with (refine n.mono ?_;rintro e w1 ⟨rfl,o,f⟩);go_ret2;refine⟨rfl,⟨i,j,k,l,h.setB o f sq ?_⟩,f.sub h.subB⟩;intro x c;rcases AW c with c | rfl
 . exact h.ok.2.1 x c
 omega
def PutDone (B:Nat) (S:PS) (b:Nat) (bs:List UInt8) (S':PS):Prop:=
 ∃ D' us' lv1 W' a,Added B S.D S.us S.lv S.W ⟨5,b,0,0⟩ bs D' us' lv1 W' a /\
   S'={ S with D:=D',us:=us',lv:=Kg B lv1 a [QF (S.I.bl.getD b 0) a],W:=W',I:={ S.I with bl:=S.I.bl.set b a,bd:=KF S.I.bl S.I.bd b a } }
theorem PutDone.goodG {B:Nat} {S:PS} {bs:List UInt8} (h:PutDone B S b bs S') (c:Good B S k j) (f:KO S.us S.W (ZM ⟨5,b,0,0⟩)) (z:b<B) (r:bs.length=64) :
 Good B S' (k+1) (j+1)/\QD B S'=(QD B S).set b bs/\S'.st=S.st:=by
 obtain⟨D',e,A,W',a,g,rfl⟩:=h;have s:PItem.May ⟨5,b,0,0⟩:=.inl ⟨.inr rfl,by have:=c.b64;simp only;omega,rfl,rfl⟩;have t:=c.cap.addedG f s (fun _=>r) g;obtain⟨u,i,l,m,v⟩:=g.readsG c.cap f c.now c.many;obtain⟨n,w⟩:=v rfl;have o:∀ x,Lies B S.us S.W x->Lies B e W' x/\JK B D' W' x=JK B S.D S.W x:=fun x d=>⟨(m x d).1,(m x d).2.1⟩;have p:=QT (B:=B) (S:=S) (S':={ S with D:=D',us:=e,W:=W' }) o c.brefs;have y:=YQ (B:=B) (S:=S) (S':={ S with D:=D',us:=e,W:=W' }) o c.orefs;have C:a≠0:=by have:=n.lo;omega
 refine⟨⟨t,u,i.trans c.many,by simp only;rw[l];exact c.flt,by simp only;rw[l,i];exact c.flen,c.b1,c.b64,uq c.bl,c.ol,?_,y.1,by have:=c.seq;simp only;omega,by have:=c.epoch;simp only;omega,by have:=c.done;simp only;omega⟩,?_,rfl⟩
 . intro x d
   rcases AW d with d | rfl
   . exact p.1 x d
   exact .inr ⟨Z,uq n⟩
 unfold QD;simp only;rw[CV]
 congr 1
 . exact p.2
 unfold ZF;rw[AL Z];simp only[BK];rw[w]
theorem PutDone.good {B:Nat} {S:PS} {bs:List UInt8} (h:PutDone B S b bs S') (a:Good B S k j) (c:k<=50) (d:b<B) (e:bs.length=64) :
 Good B S' (k+1) (j+1)/\QD B S'=(QD B S).set b bs/\S'.st=S.st:=
 PutDone.goodG h a (a.cap.frees c (by unfold ZM;split <;> omega)) d e
theorem ZAf {w:World} {base s d:Nat} {F:List Nat} {B:Nat} {S:PS} (h:StoreAt w base s d F B S) (i:Good B S k j) (a2:RoomOk S.us S.W 1 false) (hj:j<=100000) (hm:S.st.mode=2) (b:Nat) (hb:b<B) (c:Nat) (bs:List UInt8) (hr:Rd w A 64 (bys bs)) (af:∀ x,A=some x->x.block∉F) :
 Calls prog 120 #[pq s,b,.slice A 64 c] w fun e w'=>e=.returned zz/\∃ F' S',StoreAt w' base s d F' B S'/\PutDone B S b bs S'/\Keep F w w'/\Grow w F F':=by
 obtain⟨g,t,p,m,Fd,Ft,Fw,Fm,L0,L1,h,rfl⟩:=h;have b4:bs.length=64:=uq hr.1;have a3:=ZY w base s d g t p m Fd Ft Fw Fm L0 L1 B S h b 1 Z Z;have a4:=QS w base s d g t p m Fd Ft Fw Fm L0 L1 B S h 2 (.inr hm.symm);have ag:PItem.May ⟨5,b,0,0⟩:=.inl ⟨.inr rfl,by have:=i.b64;simp only;omega,rfl,rfl⟩;have b5:=i.cap.acts;have b6:=i.cap.lsn;have n:=QAG h.log i.cap.ok i.cap.off Z Z i.cap.opn ag sq a2 (A:=A) c bs (by simpa [ZM,PItem.loaded] using hr) (fun x f hm=>af x f (YAt (by intro y hy;simp only[AD] at hy;rcases hy with h | h | h <;> simp[h]) _ hm));rw[show 64*ZM ⟨5,b,0,0⟩=64 by simp[ZM,PItem.loaded]] at n;simp only[itc] at n;have a5:=h.blk;have ah:s∉Fd++(Ft++Fw):=fun hm=>h.aps (by simp only[AM,AD] at hm ⊢;rcases hm with hm | hm | hm <;> simp[hm]);obtain⟨C,D,E,G,H,I,J,K,L,M,N,O,P,Q,R,T,U,V⟩:=KC a5;go_enter func120,ntmps120
 go_wp2_with (first
  | (go_at_call 109
     refine a3.mono ?_;clear a3
     rintro e w' ⟨rfl,rfl⟩)
  | (go_at_call 93
     refine a4.mono ?_;clear a4
     rintro e w' ⟨rfl,rfl⟩)
  | (go_at_call 105
     refine n.mono ?_;clear n C D E G H I J K L M N O P Q R T U V;rintro e w1 ⟨a,rfl,a6,a7,ai,aj,ak,al,h1,a8,W,am,an⟩;have ao:=a5.keep W ah;obtain⟨C,D,E,G,H,I,J,K,L,M,N,O,P,Q,R,T,U,V⟩:=KC ao;obtain⟨a9,ap⟩:=h.setLog h1 W am an;obtain⟨_,_,_,_,o⟩:=a8.readsG i.cap (a2.frees i.cap.ul) i.now i.many;obtain⟨o,_⟩:=o rfl;have ar:=o.lo;have au:=o.hi;have b7:=(JD h.log.geom.pos h.log.geom.few).2;have X:=KBa a9.img b a (by rw[h.blen];exact hb) Z;have aa:=Kc (z:=(a:Nat)) (.inr (i.brefs (S.I.bl.getD b 0) (Kz (by rw[i.bl];exact hb))));obtain⟨Y,a0⟩:=ex (QF (S.I.bl.getD b 0) a);rw[<- a0] at X aa;have av:=JB a0
     clear a0)
  | (go_at_call 246
     refine X.mono ?_;clear X C D E G H I J K L M N O P Q R T U V;rintro e r ⟨rfl,aw,ab⟩;have ac:=a9.setImg aw sq ab;have ad:kz r (r.alloc (.cells #[ii Y] 3)):=kq.alloc _;have ax:=JT r (.int .i64 Y) 3;have ay:∀ x∈Ft,x<r.heap.size:=fun x f=>ac.log.tab.lt x f;have ae:=Yf _ base s d g t p m a6 Ft a7 Fm L0 L1 B _ (ac.kO ad) a (.inr ⟨ar,au⟩) _ 1 1 [Y] ax (uq aa) Z (fun x f hm=>by cases f;have:=ay _ hm;simp at this)))
 go_wp2_with (refine ae.mono ?_;clear ae;rintro e w4 ⟨rfl,az,b0⟩);go_ret;have a1:∀ {l:List Nat} {u v:World},(∀ x∈l,x=s\/x∈Fd\/x∈Ft\/x∈Fw\/x∈Fm)->Keep l u v->Keep (ZN s g Fd Ft Fw Fm L0 L1) u v:=fun hl hk=>hk.sub (YAt hl);have b1:=a1 (by intro x f;simp only[AD] at f;rcases f with h | h | h <;> simp[h]) W;have b2:=b1.trans (a1 (by intro x f;simp[f]) ab) (fun x f=>.inl f);have b3:=(b2.tO ad).trans (a1 (by intro x f;simp[f]) b0) (fun x f=>.inl f);refine⟨rfl,_,_,⟨g,t,p,m,a6,Ft,a7,Fm,L0,L1,az,rfl⟩,⟨ai,aj,ak,al,a,a8,?_⟩,b3,ap⟩;rw[<- JA av]
theorem JBh {w:World} {base s d:Nat} {F:List Nat} {B:Nat} {S:PS} (h:StoreAt w base s d F B S) (a:Good B S k j) (f:k<=50) (g:j<=100000) (hm:S.st.mode=2) (b:Nat) (i:b<B) (c:Nat) (bs:List UInt8) (l:Rd w A 64 (bys bs)) (m:∀ x,A=some x->x.block∉F) :
 Calls prog 120 #[pq s,b,.slice A 64 c] w fun e w'=>e=.returned zz/\∃ F' S',StoreAt w' base s d F' B S'/\PutDone B S b bs S'/\Keep F w w'/\Grow w F F':=
 ZAf h a (a.room f Z false) g hm b i c bs l m
theorem ZAB {w:World} {base d g t p:Nat} {Fd Ft Fw:List Nat} {B:Nat} {W:PW} (h:LogIs w base d g t p Fd Ft Fw B D us lv W) (J:∀ x∈D.faults,x=false) (a8:D.faults.length=D.n) (ho:W.Ok) (a:Nat) (ha:a<D.n) :
 Calls prog 215 #[pq p,a] w fun e w'=>∃ m o,e=.returned (.tuple #[.slice m 64 o,zz])/\w'.ownsRow w.heap.size 5 1 (.slice m 64 o) 64 (bys (JK B D W a))/\kz w w':=by
 obtain⟨I,aj,ls,l⟩:=h.wri;obtain⟨BA,bc,rfl,_⟩:=ZB l.bls;have K:=l.rws rfl;have A:ls.length=W.blocks.length:=l.len;have a9:ls.length<=6:=by rw[A,ho.many];exact AA (ZL _) ho.few
 obtain⟨p1,p2,_,_,_⟩:=h.pos;have L:=fun U (b:kz w U)=>XAU (l.blk.kO b) rfl W.pos.seg W.pos.off p1 Z rfl rfl (h.geom.kO b);have aa:=fun U (b:kz w U)=>Zf U base d Fd D (h.disk.kO b) h.off a ha (by rw[AC Z,J _ (AQ _)]);have M:=fun U (b:kz w U)=>ZE (l.blk.kO b);have N:∀ k (b:k<ls.length),W.blocks[k]? = some ls[k].2:=fun k b=>by rw[<- l.snd,Aa,AC b];rfl
 have O:∀ k (b:k<ls.length),w.ownsRow base 5 1 ls[k].1 64 (bys ls[k].2):=fun k b=>l.dat _ (AQ b);have ak:=JD h.geom.pos h.geom.few;have r:=h.many;obtain⟨f,s⟩:=ex (6+4*pgs B+24*W.pos.seg+XD W.pos.off 0);have al:f<=1000:=by rw[s];unfold XD;omega
 have P:JK B D W a=if f<=a/\a<f+ls.length then W.blocks.getD (a-f) [] else seg 64 D.now a:=by unfold JK VC;rw[A,s]
 rw[<- s] at L;obtain⟨Q,R,S,T,V,X,Y,c7,c8,C⟩:=M w kq;have am:=JB s;have a0:=JB P;have ab:=JB N;have ac:=JB O;clear s P N O h l J a8 r ho A;have an:=JB (show ls.length=ls.length from rfl);obtain⟨n,r⟩:=ex ls.length;rw[<- r] at K C a9;have a1:=JB r;clear r;go_enter func215,ntmps215
 go_wp2
 go_loopw [6,7,15] (fun _ _ i U=>∃ k:Nat,k<=n/\i=.int .i64 (k:Nat)/\kz w U/\∀ j<k,a≠f+j) (fun _ _ i _=>n-(intOf i).toNat)
 case atStart=>exact⟨0,AS _,rfl,kq,fun j hj=>Z⟩
 clear Q R S T V X Y c7 c8 C;obtain⟨k,b,rfl,c,a2⟩:=hrel;have a3:=JB a2;clear a2;by_cases a4:k<n
 . have E:k<ls.length:=by rw[<- JA a1];exact a4
   obtain⟨ao,ap,ad,ar,ae,au⟩:=(K.keep c).at_ a4 E;have F:=JA ac k E;obtain⟨av,qc,af,_⟩:=ZB F;rw[af] at ae F;have aw:((k:Nat):Int)<(n:Nat):=Z;subst ad;have z:=L wr c;by_cases ag:a=f+k
   . have a5:((a:Nat):Int)=(f:Nat)+(k:Nat):=Z
     have a6:=fun U (ah:kz w U)=>JX qc _ ((Rd.of_own F).keep ah) Z
     go_wp2_with (first
      | (go_at_call 239
         refine z.mono ?_;clear z;rintro e w2 ⟨rfl,v⟩
         replace c:=c.tO v)
      | (go_at_call 238
         refine(a6 _ c).mono ?_;clear a6;rintro e w3 ⟨u,rfl,y,ai,_⟩))
     obtain⟨m,o,rfl,_⟩:=ZB y;go_ret2;refine⟨m,o,rfl,?_,c.tO ai⟩
     have G:JK B D W a=ls[k].2:=by
      rw[JA a0,AP ⟨Z,Z⟩,AB,show a-f=k from Z,JA ab k E];rfl
     rw[G];exact ZC y c.size
   have a5:¬ ((a:Nat):Int)=(f:Nat)+(k:Nat):=Z;have ax:(((a:Nat):Int) == (f:Nat)+(k:Nat))=false:=uq a5
   go_wp2_with (
    (refine z.mono ?_)
    clear z;rintro e w2 ⟨rfl,v⟩)
   go_roundw
   case rel=>
    refine⟨k+1,Z,by go_num,c.tO v,fun j hj=>?_⟩;rcases BP j k with H | H
    . exact JA a3 j H
    obtain rfl:j=k:=Z;exact ag
   case measure=>simp[intOf];omega
 obtain rfl:k=n:=Z;have a7:=aa wr c;obtain⟨Q,R,S,T,V,X,Y,c7,c8,C⟩:=M wr c
 go_wp2_with (
  (refine a7.mono ?_)
  clear a7;rintro e w2 ⟨u,rfl,y,v⟩)
 obtain⟨m,o,rfl,_⟩:=ZB y;go_ret2;refine⟨m,o,rfl,?_,c.tO v⟩
 have G:JK B D W a=seg 64 D.now a:=by
  rw[JA a0,AL];rintro⟨H,h2⟩;rw[<- JA a1] at h2;exact JA a3 (a-f) Z Z
 rw[G];exact ZC y c.size
theorem XAa {B:Nat} {S:PS} (b:Good B S k j) {a:Int} (c:RefOk B S a):(ZF B S a).length=64:=by
 unfold ZF
 split
 . simp[zeros64]
 rename_i d;obtain⟨_,e⟩:=c.resolve_left d;unfold JK
 split
 . rename_i f
   rw[AB,AC Z];exact b.cap.ok.full _ (AQ _)
 exact length_seg 64 _ _ (by have:=e.hi;have:=b.many;rw[b.now];omega)
section
variable (w:World) (base s d:Nat) (F:List Nat) (B:Nat) (S:PS) (h:StoreAt w base s d F B S)
include h
theorem XBJ (k j:Nat) (b:Good B S k j) (a:Int) (n:RefOk B S a) :
 Calls prog 112 #[pq s,ii a] w fun e w'=>∃ c d,e=.returned (.tuple #[.slice c 64 d,zz])/\w'.ownsRow w.heap.size 5 1 (.slice c 64 d) 64 (bys (ZF B S a))/\kz w w':=by
 obtain⟨g,t,p,m,Fd,Ft,Fw,Fm,L0,L1,h,rfl⟩:=h;obtain⟨v,y,z,A,C,D,E,F,G,H,I,J,K,L,M,N,O,P⟩:=KC h.blk;rcases n with rfl | ⟨h0,hl⟩
 . have i:ZF B S 0=zeros64:=by unfold ZF;rw[AP rfl]
   rw[i];clear i b h;go_enter func112,ntmps112;go_wp2_with (at_make;refine elem8.wp_make rfl _ _ rfl .i64 .i64 64 64 64 rfl rfl rfl rfl Z Z ?_);go_ret2;exact⟨some ⟨w.heap.size,0,none⟩,64,rfl,XS (Blk.new w _ _) (AG _) Z sq (by simp[zeros64,bys];rfl),kq.alloc _⟩
 have f:=ZAB h.log b.flt b.flen b.cap.ok a.toNat (by have:=hl.hi;have:=b.many;omega);rw[show ((a.toNat:Nat):Int)=a from Z] at f;have l:ZF B S a=JK B S.D S.W a.toNat:=by unfold ZF;rw[AL Z]
 rw[l];have o:¬ a=0:=Z;have Q:(a == 0)=false:=uq o;clear l b h hl;go_enter func112,ntmps112;go_wp2_with (refine f.mono ?_;clear f;rintro e R ⟨c,d,rfl,r,u⟩);go_ret2;exact⟨c,d,rfl,r,u⟩
end
theorem Zy {w:World} {base m:Nat} {F:List Nat} {I:PImage} (h:ImageAt w base m F I) (b:Nat) (g:b<I.bl.length) :
 cq 111 #[pq m,b] w (.tuple #[.int .i64 I.bl[b],.bool true]):=by
 obtain⟨c,i,d,j,h⟩:=h;have a:=JN w base m c i F d j I h false;have f:=Jm w base c d I.bl I.bd h.b b g;simp only[Aj,Bt] at a;go_enter func111,ntmps111
 go_wp2_with (first
  | (go_at_call 230;refine a.mono ?_;clear a;rintro e w' ⟨rfl,rfl⟩)
  | (refine f.mono ?_;clear f;rintro e w' ⟨rfl,rfl⟩))
 go_ret2;exact⟨rfl,rfl⟩
def Xg (I:PImage) (b:Nat):Int:=if I.ol.getD b 0 = -1 then I.bl.getD b 0 else I.ol.getD b 0
theorem ZAK {w:World} {base m:Nat} {F:List Nat} {I:PImage} (h:ImageAt w base m F I) (b:Nat) (f:b<I.bl.length) (ho:b<I.ol.length) :
 cq 113 #[pq m,b] w (.tuple #[ii (Xg I b),.bool true]):=by
 have g:=Zy h b f;obtain⟨l,i,n,j,h⟩:=h;have a:=JN w base m l i F n j I h true;have c:=Jm w base i j I.ol I.od h.o b ho;simp only[B8] at a;have k:Xg I b=if I.ol[b] = -1 then I.bl[b] else I.ol[b]:=by unfold Xg;rw[Yg ho,Yg f]
 rw[k];clear k h;generalize I.ol[b]=o at *;generalize I.bl[b]=bb at *;by_cases d:o = -1
 . subst d
   rw[AP rfl];go_enter func113,ntmps113
   go_wp2_with (first
    | (go_at_call 230;refine a.mono ?_;clear a;rintro e w' ⟨rfl,rfl⟩)
    | (go_at_call 111;refine g.mono ?_;clear g;rintro e w' ⟨rfl,rfl⟩)
    | (refine c.mono ?_;clear c;rintro e w' ⟨rfl,rfl⟩))
   go_ret2;exact⟨rfl,rfl⟩
 rw[AL d];have p:(o == -1)=false:=uq d;go_enter func113,ntmps113
 go_wp2_with (first
  | (go_at_call 230;refine a.mono ?_;clear a;rintro e w' ⟨rfl,rfl⟩)
  | (refine c.mono ?_;clear c;rintro e w' ⟨rfl,rfl⟩))
 go_ret2;exact⟨rfl,rfl⟩
section
variable (w:World) (base s d:Nat) (F:List Nat) (B:Nat) (S:PS) (h:StoreAt w base s d F B S)
include h
theorem QBO (k j:Nat) (c:Good B S k j) (b:Nat) (z:b<B) :
 Calls prog 29 #[pq s,b] w fun e w'=>∃ f i,e=.returned (.tuple #[.slice f 64 i,zz])/\w'.ownsRow w.heap.size 5 1 (.slice f 64 i) 64 (bys ((QD B S).getD b []))/\kz w w':=by
 have A:=c.bl;have o:=XBJ w base s d F B S h k j c (S.I.bl[b]' Z) (c.brefs _ (AQ _))
 have r:(QD B S).getD b []=ZF B S (S.I.bl[b]' Z):=by
  unfold QD;rw[AB,Aa,AC Z];rfl
 rw[r];obtain⟨g,t,p,m,Fd,Ft,Fw,Fm,L0,L1,h,rfl⟩:=h;have l:=ZY w base s d g t p m Fd Ft Fw Fm L0 L1 B S h b 1 Z Z;have n:=QS w base s d g t p m Fd Ft Fw Fm L0 L1 B S h 0 (.inl rfl);have u:=Zy h.img b Z;obtain⟨C,D,E,G,H,I,J,K,L,M,N,O,P,Q,R,T,U,V⟩:=KC h.blk;rw[show ((0:Nat):Int)=0 from rfl] at n;rw[show ((1:Nat):Int)=1 from rfl] at l;clear h r c;generalize S.I.bl[b]'_=a at *;generalize ZF B S a=rr at *;go_enter func29,ntmps29
 go_wp2_with (first
  | (go_at_call 109;refine l.mono ?_;clear l;rintro e w' ⟨rfl,rfl⟩)
  | (go_at_call 93;refine n.mono ?_;clear n;rintro e w' ⟨rfl,rfl⟩)
  | (go_at_call 111;refine u.mono ?_;clear u;rintro e w' ⟨rfl,rfl⟩)
  | (go_at_call 112;refine o.mono ?_;clear o;rintro e W ⟨f,i,rfl,v,y⟩))
 go_ret2;exact⟨f,i,rfl,v,y⟩
end
section
variable (w:World) (base s d g t p m:Nat) (Fd Ft Fw Fm:List Nat) (L0 L1:Value) (B:Nat) (S:PS) (h:StoreIs w base s d g t p m Fd Ft Fw Fm L0 L1 B S)
include h
theorem XAW (hm:S.st.mode=2) (v:Int):cq 126 #[pq s,ii v,ii 2] w (ii 7):=by
 obtain⟨b,c,d,e,f,a,g,i,j,k,l,m,n,o,p,r,t,u⟩:=KC h.blk;rw[hm] at a;go_enter func126,ntmps126;go_wp2_with fail;go_ret;exact⟨rfl,rfl⟩
theorem YAa (hm:S.st.mode=1) (v:Int) (b:1<=v) (c:v<=2147483647) (d:v<=(S.st.view:Nat)):cq 126 #[pq s,ii v,ii 2] w (ii 8):=by
 obtain⟨e,f,g,i,j,a,k,l,m,n,o,p,r,t,u,y,z,A⟩:=KC h.blk;rw[hm] at a;have B:¬ v<1:=Z;have C:¬ 2147483647<v:=Z;go_enter func126,ntmps126;go_wp2_with fail;go_ret;exact⟨rfl,rfl⟩
end
structure FrP (w0 w:World) (B f r s d x:Nat) (Fs:List Nat) (S:PS):Prop where
 blk:Blk w f 333 #[pq r]
 rblk:Blk w r 209 #[pq s,pq x]
 st:StoreAt w w0.heap.size s d Fs B S
 fs:f∉Fs
 rs:r∉Fs
 kept:kz w0 w
 mode:S.st.mode=2
namespace FrP
variable {w0 w w':World} {B f r s d x:Nat} {Fs:List Nat} {S:PS}
theorem kO (h:FrP w0 w B f r s d x Fs S) (a:kz w w'):FrP w0 w' B f r s d x Fs S:=⟨h.blk.kO a,h.rblk.kO a,h.st.kO a,h.fs,h.rs,h.kept.tO a,h.mode⟩
theorem turn (h:FrP w0 w B f r s d x Fs S) {a:List Nat} (e:StoreAt w' w0.heap.size s d a B S') (b:Keep Fs w w') (c:Grow w Fs a) (hm:S'.st.mode=2):FrP w0 w' B f r s d x a S':=by
 have j:=h.blk.lt;have k:=h.rblk.lt;have g:=h.st.ge;exact⟨h.blk.keep b h.fs,h.rblk.keep b h.rs,e,fun q=>(c f q).elim h.fs Z,fun q=>(c r q).elim h.rs Z,h.kept.trans b (fun y i=>.inr (g y i)),hm⟩
theorem promote_no (h:FrP w0 w B f r s d x Fs S) (v:Int):cq 59 #[pq f,ii v] w (ii 7):=by
 obtain⟨g,t,p,m,Fd,Ft,Fw,Fm,L0,L1,a,_⟩:=h.st;refine Vm h.blk h.rblk ((XAW w _ s d g t p m Fd Ft Fw Fm L0 L1 B S a h.mode v).mono ?_);rintro e w' ⟨rfl,b⟩;exact⟨7,rfl,rfl,b⟩
theorem read (h:FrP w0 w B f r s d x Fs S) (k j:Nat) (p:Good B S k j) (b:Nat) (t:b<B) :
 Calls prog 166 #[pq f,b] w fun e w'=>∃ a c,e=.returned (.tuple #[.slice a 64 c,zz])/\w'.ownsRow w.heap.size 5 1 (.slice a 64 c) 64 (bys ((QD B S).getD b []))/\kz w w':=by
 have n:=fun W (g:kz w W)=>VN W f r s x (h.blk.kO g) (h.rblk.kO g);have l:=YO h.st;have u:=fun W (g:kz w W)=>QBO W _ s d Fs B S (h.st.kO g) k j p b t;have v:=h.mode;rw[v] at l;have L:=fun(y z A C D E F G H I:Value) W=>QE (P:=prog) underlying58 0 rfl isAgg3 #[y,z,A,C,D,E,F,G,H,I] rfl W;go_enter func166,ntmps166;have m:=n w kq
 go_wp2_with (first
  | (go_at_call 170;refine m.mono ?_;clear m;rintro e w' ⟨rfl,rfl⟩)
  | (go_at_call 22;refine l.mono ?_;clear l;rintro e w1 ⟨rfl,i⟩;have m:=n _ i;have o:=u _ i)
  | (go_at_call 29;refine o.mono ?_;clear o;rintro e M ⟨a,c,rfl,J,K⟩))
 go_ret2;exact⟨a,c,rfl,ZC J i.size,i.tO K⟩
theorem write (h:FrP w0 w B f r s d x Fs S) (k j:Nat) (a:Good B S k j) (g:k<=50) (u:j<=100000) (b:Nat) (i:b<B) (A:Option Addr) (c:Nat) (bs:List UInt8) (l:Rd w A 64 (bys bs)) (v:∀ x,A=some x->x.block∉Fs) :
 Calls prog 165 #[pq f,b,.slice A 64 c] w fun e w'=>e=.returned zz/\∃ F' S',FrP w0 w' B f r s d x F' S'/\PutDone B S b bs S'/\Good B S' (k+1) (j+1)/\Keep Fs w w'/\Grow w Fs F':=by
 have m:=VN w f r s x h.blk h.rblk;have n:=JBh h.st a g u h.mode b i c bs l v;have y:bs.length=64:=uq l.1;go_enter func165,ntmps165
 go_wp2_with (first
  | (go_at_call 170;refine m.mono ?_;clear m;rintro e w' ⟨rfl,rfl⟩)
  | (go_at_call 120;refine n.mono ?_;clear n;rintro e w1 ⟨rfl,F',S',z,o,p,t⟩))
 go_ret;obtain⟨C,E,D⟩:=o.good a g i y;exact⟨rfl,F',S',h.turn z p t (by rw[D];exact h.mode),o,C,p,t⟩
end FrP
theorem FrSt.promote {w0 w:World} {B f r s d x:Nat} {Fs:List Nat} (h:FrSt w0 w B f r s d x Fs Fx R) (k j:Nat) (c:Good B R.S k j) (g:Ext B R.S) (m:j<=100000) (n:R.S.st.gen<=100000) (v:Nat) (o:R.S.st.view<v) (p:v<=2147483647) :
 Calls prog 59 #[pq f,v] w fun e w'=>e=.returned zz/\∃ F' S',FrP w0 w' B f r s d x F' S'/\Raised B R.S v 2 S'/\Keep Fs w w'/\Grow w Fs F':=by
 have t:=VBF h.rep.st c g m h.rep.mode n v 2 o p (.inr rfl);refine Vm h.blk h.rep.blk (t.mono ?_);rintro e w' ⟨rfl,F',S',u,i,a,b⟩;have C:=h.blk.lt;have D:=h.rep.blk.lt;have z:=h.rep.st.ge;have l:f∉Fs:=fun q=>h.fn (by simp[YU,q]);exact⟨0,rfl,rfl,F',S',⟨h.blk.keep a l,h.rep.blk.keep a h.rep.rs,u,fun q=>(b f q).elim l Z,fun q=>(b r q).elim h.rep.rs Z,h.kept.trans a (fun y A=>.inr (z y A)),by rw[(i.good c g Z).2.2.2.2.1]⟩,i,a,b⟩
theorem FrSt.promote_view {w0 w:World} {B f r s d x:Nat} {Fs:List Nat} (h:FrSt w0 w B f r s d x Fs Fx R) (v:Int) (a:1<=v) (b:v<=2147483647) (c:v<=(R.S.st.view:Nat)):cq 59 #[pq f,ii v] w (ii 8):=by
 obtain⟨g,t,p,m,Fd,Ft,Fw,Fm,L0,L1,i,_⟩:=h.rep.st;refine Vm h.blk h.rep.blk ((YAa w _ s d g t p m Fd Ft Fw Fm L0 L1 B _ i h.rep.mode v a b c).mono ?_);rintro e w' ⟨rfl,j⟩;exact⟨8,rfl,rfl,j⟩
theorem XAo (w:World):cq 279 #[.pointer none] w (.pointer none):=by
 go_enter func279,ntmps279
 go_wp2
 go_ret;exact⟨rfl,rfl⟩
theorem JAI (w:World):cq 170 #[.pointer none] w (.pointer none):=by
 have a:=JBQ w;have b:=XAo w;go_enter func170,ntmps170
 go_wp2_with (first
  | (go_at_call 177;refine a.mono ?_;clear a;rintro e w' ⟨rfl,rfl⟩)
  | (go_at_call 279;refine b.mono ?_;clear b;rintro e w' ⟨rfl,rfl⟩))
 go_ret;exact⟨rfl,rfl⟩
theorem VAz (w:World) (m:Int) (b:Bool):cq 93 #[.pointer none,ii m,.bool b] w (ii 3):=by
 go_enter func93,ntmps93
 go_wp2
 go_ret;exact⟨rfl,rfl⟩
theorem YBI (w:World):cq 124 #[.pointer none] w (ii 3):=by
 have a:=VAz w 2 true;go_enter func124,ntmps124;go_wp2_with (refine a.mono ?_;rintro e w' ⟨rfl,rfl⟩);go_ret;exact⟨rfl,rfl⟩
theorem YAq (w:World):cq 169 #[.pointer none] w (ii 3):=by
 have a:=JAI w;have b:=YBI w;go_enter func169,ntmps169
 go_wp2_with (first
  | (go_at_call 170;refine a.mono ?_;clear a;rintro e w' ⟨rfl,rfl⟩)
  | (go_at_call 124;refine b.mono ?_;clear b;rintro e w' ⟨rfl,rfl⟩))
 go_ret;exact⟨rfl,rfl⟩
theorem QBW (w:World):cq 168 #[.pointer none,ii 17] w (.tuple #[.pointer none,ii 1]):=by
 go_enter func168,ntmps168
 go_wp2
 go_ret2;exact⟨rfl,rfl⟩
structure PIdl where
 base:List (List UInt8)
 over:List (Option (List UInt8))
 ep:Nat
 seq:Nat
 done:Nat
def PIdl.new (B:Nat):PIdl:=⟨List.replicate B zeros64,List.replicate B none,0,0,0⟩
def PIdl.step (I:PIdl) (o:POp):PIdl:=
 if o.k=1 then { I with over:=I.over.set o.b.toNat (some o.d),seq:=I.seq+1 }
 else if o.k=2 then { I with over:=XP I.over o.b.toNat o.c.toNat (some zeros64),seq:=I.seq+1 }
 else { base:=JR I.base I.over,over:=List.replicate I.over.length none,ep:=I.ep+1,seq:=I.seq+1,done:=I.seq+1 }
def idl (B:Nat) (ops:Nat->POp):Nat->PIdl
 | 0=>PIdl.new B
 | n+1=>(idl B ops n).step (ops n)
def XBd (B:Nat) (ops:Nat->POp) (len:Nat):Prop:=∀ j<len,Vg B (ops j)/\((ops j).k=3->(ops j).e=((idl B ops j).ep:Nat)+1)
structure Stm (B:Nat) (ops:Nat->POp) (n:Nat) (S:PS):Prop where
 good:Good B S n (2*n)
 base:QD B S=(idl B ops n).base
 over:JF B S=(idl B ops n).over
 epoch:S.st.epoch=(idl B ops n).ep
 seq:S.st.seq=(idl B ops n).seq
 done:S.st.done=(idl B ops n).done
theorem ZW {a:Type} (l:List a) (b n:Nat) (v:a):(XP l b n v).length=l.length:=by simp[XP]
theorem JBj (B:Nat) (ops:Nat->POp) (n:Nat):(idl B ops n).seq=n:=by
 induction n with
 | zero=>rfl
 | succ n ih=>
   simp only[idl,PIdl.step]
   split
   . simp[ih]
   split <;> simp[ih]
theorem ZAZ (B:Nat) (ops:Nat->POp) (n:Nat):(idl B ops n).base.length=B/\(idl B ops n).over.length=B:=by
 induction n with
 | zero=>simp[idl,PIdl.new]
 | succ n ih=>
   simp only[idl,PIdl.step]
   split
   . simp[ih]
   split
   . simp[ih,ZW]
   simp[ih,JR]
theorem Does.stm {B:Nat} {S:PS} (h:Does B S (ops n) S') (ho:Vg B (ops n)) (b:Stm B ops n S) (u:n<=45):Stm B ops (n+1) S'/\S'.st.view=S.st.view/\S'.st.mode=S.st.mode:=by
 have c:=b.good;obtain⟨o,_⟩:=h.good ho c Z Z;have i:Good B S' (n+1) (2*(n+1)):=o;rcases h with⟨f,g⟩ | ⟨f,g⟩ | ⟨f,g,p⟩
 . rcases ho with⟨_,r,s,l⟩ | ⟨j,_⟩ | ⟨j,_⟩
   . obtain⟨m,d,e,a⟩:=g.good c Z Z l
     refine⟨⟨i,?_,?_,?_,?_,?_⟩,by rw[a],by rw[a]⟩ <;> simp only[idl,PIdl.step,AP f]
     . rw[d,b.base]
     . rw[e,b.over]
     . rw[a];exact b.epoch
     . rw[a];simp only;rw[b.seq]
     rw[a];exact b.done
   . omega
   omega
 . have k:¬ (ops n).k=1:=Z
   rcases ho with⟨j,_⟩ | ⟨_,r,s,l⟩ | ⟨j,_⟩
   . omega
   . obtain⟨m,d,e,a⟩:=g.good c Z Z Z
     refine⟨⟨i,?_,?_,?_,?_,?_⟩,by rw[a],by rw[a]⟩ <;> simp only[idl,PIdl.step,AL k,AP f]
     . rw[d,b.base]
     . rw[e,b.over]
     . rw[a];exact b.epoch
     . rw[a];simp only;rw[b.seq]
     rw[a];exact b.done
   omega
 have k:¬ (ops n).k=1:=Z;have t:¬ (ops n).k=2:=Z;have v:=c.epoch;obtain⟨m,d,e,a⟩:=p.good c Z Z Z;refine⟨⟨i,?_,?_,?_,?_,?_⟩,by rw[a],by rw[a]⟩ <;> simp only[idl,PIdl.step,AL k,AL t]
 . rw[d,b.base,b.over]
 . rw[e,(ZAZ B ops n).2]
 . rw[a];simp only;have:=b.epoch;omega
 . rw[a];simp only;rw[b.seq]
 rw[a];simp only;rw[b.seq]
theorem mod_one {N s a:Nat} (e:s<=a/\a<s+N) (f:s<=b/\b<s+N) (h:a % N=b % N):a=b:=by
 rcases Nat.le_total a b with d | d
 . have c:=Nat.sub_mod_eq_zero_of_mod_eq h.symm
   rw[Bh Z] at c;omega
 have c:=Nat.sub_mod_eq_zero_of_mod_eq h;rw[Bh Z] at c;omega
structure WinRel (ops:Nat->POp) (len next:Nat) (th:List Bool) (sl:List PSlot):Prop where
 pos:1<=sl.length
 thl:th.length=len+1
 thz:th.getD len false=false
 lo:∀ j<next,th.getD j false=true
 hi:∀ j,th.getD j false=true->j<next+sl.length
 sl:∀ i<sl.length,(sl.getD ((next+i+1) % sl.length) PSlot.none_).is=th.getD (next+i) false/\((sl.getD ((next+i+1) % sl.length) PSlot.none_).is=true->(sl.getD ((next+i+1) % sl.length) PSlot.none_).o=ops (next+i))
 nle:next<=len
theorem QAN {i:Nat} {q:PSlot} (hi:i<sl.length):(sl.set i q).getD k PSlot.none_=if i=k then q else sl.getD k PSlot.none_:=by
 rw[AB,BT]
 split
 . rename_i e
   subst e;simp[hi]
 rw[AB]
theorem YY {l:List Bool} {i:Nat} {b:Bool} (hi:i<l.length):(l.set i b).getD k false=if i=k then b else l.getD k false:=by
 rw[AB,BT]
 split
 . rename_i e
   subst e;simp[hi]
 rw[AB]
theorem WinRel.put {next:Nat} {a:List Bool} (h:WinRel ops len next a sl) (g:j<len) (k:next<=j) (l:j<next+sl.length) (v:Value) :
 WinRel ops len next (a.set j true) (sl.set ((j+1) % sl.length) ⟨v,ops j,true⟩):=by
 have b:=h.pos;have c:=h.thl;have d:(j+1) % sl.length<sl.length:=CP _ b;refine⟨uq b,uq c,?_,?_,?_,?_,h.nle⟩
 . rw[YY Z,AL Z];exact h.thz
 . intro i hi
   rw[YY Z]
   split
   . rfl
   exact h.lo i hi
 . intro i hi
   rw[YY Z] at hi;rw[Bj]
   split at hi
   . omega
   exact h.hi i hi
 intro i hi;rw[Bj] at hi ⊢;rw[QAN d,YY Z];by_cases e:j=next+i
 . subst e
   rw[AP rfl,AP rfl];exact⟨rfl,fun _=>rfl⟩
 have f:¬ (j+1) % sl.length=(next+i+1) % sl.length:=fun hm=>e (by
  have:=mod_one (s:=next+1) ⟨Z,Z⟩ ⟨Z,Z⟩ hm;omega)
 rw[AL f,AL e];exact h.sl i hi
def XAV (B:Nat) (zs:List (Int×Int×Int)) (j:Nat):POp:=(QO B (zs.getD j (0,0,0)) (JO B zs j).2).1
theorem XBa (B:Nat) (zs:List (Int×Int×Int)) (j:Nat):(idl B (XAV B zs) j).ep=(JO B zs j).2:=by
 induction j with
 | zero=>rfl
 | succ j ih=>
   rw[Qy];simp only[idl,PIdl.step];rcases Zo B (zs.getD j (0,0,0)) (JO B zs j).2 with⟨a,_,b⟩ | ⟨a,b⟩
   . have c:(XAV B zs j).k=3:=a
     rw[AL Z,AL Z,b];simp only[ih]
   have c:(XAV B zs j).k≠3:=a;rw[b,<- ih]
   split
   . rfl
   split
   . rfl
   exfalso
   have d:(XAV B zs j).k=1\/(XAV B zs j).k=2\/(XAV B zs j).k=3:=by
    unfold XAV QO
    split
    . exact .inr (.inr rfl)
    split
    . exact .inr (.inl rfl)
    exact .inl rfl
   omega
theorem JBY {B:Nat} (a:1<=B/\B<=64) (zs:List (Int×Int×Int)) (e:len<=1000000):XBd B (XAV B zs) len:=by
 intro j f;have g:=Xm B zs j;refine⟨(Xj B a _ _ Z).1,fun b=>?_⟩;rw[XBa];rcases Zo B (zs.getD j (0,0,0)) (JO B zs j).2 with⟨_,c,_⟩ | ⟨d,_⟩
 . exact c
 exact absurd b d
theorem ZBG {B:Nat} {S:PS} (a:Good B S 0 0) (b:S.I.bl=List.replicate B 0) (ho:S.I.ol=List.replicate B (-1)) (c:S.st.epoch=0) (d:S.st.seq=0) (e:S.st.done=0):Stm B ops 0 S:=by
 refine⟨a,?_,?_,c,d,e⟩
 . unfold QD
   rw[b,C3];simp[idl,PIdl.new,ZF]
 unfold JF;rw[ho,C3];simp[idl,PIdl.new]
def ORow (w:World) (base:Nat) (v:Value) (o:Option (List UInt8)):Prop:=(o=none/\v=.slice none 0 0)\/∃ xs,o=some xs/\xs.length=64/\w.ownsRow base 5 1 v 64 (bys xs)
theorem ORow.keep {w w':World} {base:Nat} {l:List Nat} (h:ORow w base v o) (a:Keep l w w') (b:∀ g∈v.ownBlock.toList,g∉l):ORow w' base v o:=by
 rcases h with h | ⟨xs,c,d,e⟩
 . exact .inl h
 exact .inr ⟨xs,c,d,XB e a (fun g f=>b g (by simp[f]))⟩
theorem ORow.rd {w:World} {base:Nat} (h:ORow w base v (some xs)):∃ g c,v=.slice (some (aq g 0)) 64 c/\Rd w (some (aq g 0)) 64 (bys xs)/\xs.length=64/\64<=c:=by
 rcases h with⟨h,_⟩ | ⟨ys,b,d,a⟩
 . cases h
 cases b;obtain⟨g,c,rfl,e⟩:=QN a Z;exact⟨g,c,rfl,Rd.of_own a,d,e⟩
theorem ORow.nil {w:World} {base:Nat} (h:ORow w base v none):v=.slice none 0 0:=by
 rcases h with⟨_,h⟩ | ⟨ys,a,_⟩
 . exact h
 cases a
theorem ORow.lt {w:World} {base:Nat} (h:ORow w base v o):∀ g∈v.ownBlock.toList,base<=g/\g<w.heap.size:=by
 rcases h with⟨_,rfl⟩ | ⟨ys,_,_,b⟩
 . intro g a;simp[Value.ownBlock] at a
 exact fun g a=>own_mem b a
structure IdlIs (w:World) (base i:Nat) (bv ov:Value) (bs:List (Value×List UInt8)) (os:List (Value×Option (List UInt8))) (F:List Nat) (I:PIdl):Prop where
 blk:Blk w i 97 #[bv,ov,ii I.ep,ii I.seq,ii I.done]
 brow:w.ownsRow base 66 1 bv bs.length (bs.map (·.1))
 orow:w.ownsRow base 66 1 ov os.length (os.map (·.1))
 bdat:∀ q∈bs,ORow w base q.1 (some q.2)
 odat:∀ q∈os,ORow w base q.1 q.2
 bsnd:bs.map (·.2)=I.base
 osnd:os.map (·.2)=I.over
 ne:bv.ownBlock≠ov.ownBlock
 foot:F=i :: (bv.ownBlock.toList++(ov.ownBlock.toList++(bs.flatMap (fun q=>q.1.ownBlock.toList)++os.flatMap (fun q=>q.1.ownBlock.toList))))
 base:base<=i
def KAy (w:World) (base i:Nat) (F:List Nat) (I:PIdl):Prop:=∃ bv ov bs os,IdlIs w base i bv ov bs os F I
namespace IdlIs
variable {w w':World} {base i:Nat} {bv ov:Value} {bs:List (Value×List UInt8)} {os:List (Value×Option (List UInt8))} {F l:List Nat} {I:PIdl}
theorem inI (h:IdlIs w base i bv ov bs os F I):i∈F:=by rw[h.foot];simp
theorem inB (h:IdlIs w base i bv ov bs os F I):∀ x∈bv.ownBlock.toList,x∈F:=fun x a=>by rw[h.foot];simp only[AM,AD];exact .inr (.inl a)
theorem inO (h:IdlIs w base i bv ov bs os F I):∀ x∈ov.ownBlock.toList,x∈F:=fun x a=>by rw[h.foot];simp only[AM,AD];exact .inr (.inr (.inl a))
theorem inBs (h:IdlIs w base i bv ov bs os F I) {q:Value×List UInt8} (a:q∈bs):∀ x∈q.1.ownBlock.toList,x∈F:=fun x b=>by
 rw[h.foot];simp only[AM,AD];exact .inr (.inr (.inr (.inl (Bk.2 ⟨q,a,b⟩))))
theorem inOs (h:IdlIs w base i bv ov bs os F I) {q:Value×Option (List UInt8)} (a:q∈os):∀ x∈q.1.ownBlock.toList,x∈F:=fun x b=>by
 rw[h.foot];simp only[AM,AD];exact .inr (.inr (.inr (.inr (Bk.2 ⟨q,a,b⟩))))
theorem keep (h:IdlIs w base i bv ov bs os F I) (b:Keep l w w') (c:Apart F l):IdlIs w' base i bv ov bs os F I:=
 ⟨h.blk.keep b (c _ h.inI),XB h.brow b (fun x a=>c _ (h.inB x (by simp[a]))),XB h.orow b (fun x a=>c _ (h.inO x (by simp[a]))),fun q d=>(h.bdat q d).keep b (fun x a=>c _ (h.inBs d x a)),
   fun q d=>(h.odat q d).keep b (fun x a=>c _ (h.inOs d x a)),h.bsnd,h.osnd,h.ne,h.foot,h.base⟩
theorem kO (h:IdlIs w base i bv ov bs os F I) (a:kz w w'):IdlIs w' base i bv ov bs os F I:=h.keep a Apart.nil_right
theorem mem (h:IdlIs w base i bv ov bs os F I) {x:Nat} (a:x∈F):x=i\/x∈bv.ownBlock.toList\/x∈ov.ownBlock.toList\/(∃ q∈bs,x∈q.1.ownBlock.toList)\/∃ q∈os,x∈q.1.ownBlock.toList:=by
 rw[h.foot] at a;simpa only[AM,AD,Bk] using a
theorem lt (h:IdlIs w base i bv ov bs os F I):∀ x∈F,base<=x/\x<w.heap.size:=fun x a=>by
 rcases h.mem a with rfl | a | a | ⟨q,hq,a⟩ | ⟨q,hq,a⟩
 . exact⟨h.base,h.blk.lt⟩
 . exact own_mem h.brow a
 . exact own_mem h.orow a
 . exact(h.bdat q hq).lt x a
 exact(h.odat q hq).lt x a
theorem blen (h:IdlIs w base i bv ov bs os F I):bs.length=I.base.length:=by rw[<- h.bsnd];simp
theorem olen (h:IdlIs w base i bv ov bs os F I):os.length=I.over.length:=by rw[<- h.osnd];simp
theorem oget (h:IdlIs w base i bv ov bs os F I) (a:k<os.length):I.over[k]? = some os[k].2:=by rw[<- h.osnd,Aa,AC a];rfl
theorem iB (h:IdlIs w base i bv ov bs os F I):i∉bv.ownBlock.toList:=fun hm=>own_blk_ne h.brow h.blk (by decide) (uq hm)
theorem iO (h:IdlIs w base i bv ov bs os F I):i∉ov.ownBlock.toList:=fun hm=>own_blk_ne h.orow h.blk (by decide) (uq hm)
end IdlIs
theorem XAg {a:Type} (l:List a) (b:Nat) (v:a):XP l b 0 v=l:=by
 apply Bs;intro x;rw[YS,AL Z]
theorem VAd {a:Type} (l:List a) (b m:Nat) (v:a) (h:b+m<l.length):XP l b (m+1) v=(XP l b m v).set (b+m) v:=by
 apply Bs;intro x;rw[YS,BT,YS,ZW];by_cases e:b+m=x
 . subst e
   rw[AP rfl,AP h,AP Z]
 rw[AL e];by_cases c:b<=x/\x<b+m/\x<l.length
 . rw[AP c,AP Z]
 rw[AL c,AL Z]
def Jv (base:List (List UInt8)) (over:List (Option (List UInt8))) (m:Nat):List (List UInt8):=(JR base over).take m++base.drop m
def Qe (over:List (Option (List UInt8))) (m:Nat):List (Option (List UInt8)):=List.replicate m none++over.drop m
section
variable {base:List (List UInt8)} {over:List (Option (List UInt8))} {m:Nat} (h:base.length=over.length) (hm:m<=over.length)
include h hm
theorem Qr (x:Nat):(Jv base over m)[x]? = if x<m then (JR base over)[x]? else base[x]? := by
 have b:(JR base over).length=over.length:=by simp[JR,h]
 unfold Jv;rw[EB];simp only[BE,b];by_cases a:x<m
 . rw[AP Z,AP a,Bb,AP a]
 rw[AL Z,AL a,BW]
 congr 1;omega
omit h hm in
theorem Jc (x:Nat):(Qe over m)[x]? = if x<m then some none else over[x]? := by
 unfold Qe;rw[EB];simp only[Ai];by_cases hx:x<m
 . rw[AP hx,AP hx,Ay,AP hx]
 . rw[AL hx,AL hx,BW]
   congr 1;omega
theorem comAt_len:(Jv base over m).length=over.length/\(Qe over m).length=over.length:=by
 constructor
 . simp only[Jv,AE,BE,D7,JR,List.length_zipWith,h];omega
 simp only[Qe,AE,Ai,D7];omega
end
theorem ZBU {base:List (List UInt8)} {over:List (Option (List UInt8))} {m:Nat} (h:base.length=over.length) (hm:m<over.length) (ho:over[m]? = some (some xs)) :
 Jv base over (m+1)=(Jv base over m).set m xs/\Qe over (m+1)=(Qe over m).set m none:=by
 have b:base[m]? = some base[m]:=AC Z;constructor
 . apply Bs
   intro x;rw[Qr h Z,BT,Qr h Z,(comAt_len h Z).1];by_cases e:m=x
   . subst e
     rw[AP Z,AP rfl,AP hm];unfold JR;rw[C0,b,ho];rfl
   rw[AL e];by_cases a:x<m
   . rw[AP a,AP Z]
   rw[AL a,AL Z]
 apply Bs;intro x;rw[Jc,BT,Jc,(comAt_len h Z).2];by_cases e:m=x
 . subst e
   rw[AP Z,AP rfl,AP hm]
 rw[AL e];by_cases a:x<m
 . rw[AP a,AP Z]
 rw[AL a,AL Z]
theorem VBO {base:List (List UInt8)} {over:List (Option (List UInt8))} {m:Nat} (h:base.length=over.length) (hm:m<over.length) (ho:over[m]? = some none) :
 Jv base over (m+1)=Jv base over m/\Qe over (m+1)=Qe over m:=by
 have b:base[m]? = some base[m]:=AC Z;constructor
 . apply Bs
   intro x;rw[Qr h Z,Qr h Z];by_cases e:m=x
   . subst e
     rw[AP Z,AL Z];unfold JR;rw[C0,b,ho];rfl
   by_cases a:x<m
   . rw[AP a,AP Z]
   rw[AL a,AL Z]
 apply Bs;intro x;rw[Jc,Jc];by_cases e:m=x
 . subst e
   rw[AP Z,AL Z,ho]
 by_cases a:x<m
 . rw[AP a,AP Z]
 rw[AL a,AL Z]
theorem KBh {base:List (List UInt8)} {over:List (Option (List UInt8))} (h:base.length=over.length):Jv base over over.length=JR base over/\Qe over over.length=List.replicate over.length none:=by
 constructor
 . unfold Jv
   rw[AH (by simp[JR,h]),BM Z,Ba]
 unfold Qe;rw[BM Z,Ba]
namespace IdlIs
variable {w w1:World} {base i:Nat} {bv ov:Value} {bs:List (Value×List UInt8)} {os:List (Value×Option (List UInt8))} {F:List Nat} {I:PIdl}
theorem row_ne {u:Value} {ys:List Value} (b:ORow w base v o) (c:w.ownsRow base 66 1 u n ys) {g:Nat} (a:g∈v.ownBlock.toList):u.ownBlock≠some g:=by
 rcases b with⟨_,rfl⟩ | ⟨xs,_,_,d⟩
 . simp[Value.ownBlock] at a
 exact own_ne d c (by decide) (uq a)
theorem setO {d l:Nat} (h:IdlIs w base i bv (.slice (some d) n l) bs os F I) (r:kz w w1) (m:ORow w1 base v o) :
 ∃ F',IdlIs (w1.setCell (aq d k) v) base i bv (.slice (some d) n l) bs (os.set k (v,o)) F' { I with over:=I.over.set k o }/\Keep [d] w1 (w1.setCell (aq d k) v)/\∀ x∈F',x∈F\/x∈v.ownBlock.toList:=by
 have a:=h.kO r;obtain rfl:n=os.length:=by obtain⟨_,_,e,_⟩:=ZB a.orow;cases e;rfl
 have f:Keep [d] w1 (w1.setCell (aq d k) v):=(Keep.refl [d] w1).sc d k
 have j:∀ {u:Value} {p:Option (List UInt8)},ORow w1 base u p->∀ g∈u.ownBlock.toList,g∉[d]:=fun s g t hm=>by
  simp at hm;subst hm;exact row_ne s a.orow t (by simp[Value.ownBlock])
 refine⟨_,⟨a.blk.keep f (fun hm=>a.iO (by simp at hm;simp[Value.ownBlock,hm])),XB a.brow f (fun x b hm=>?_),?_,fun q c=>(a.bdat q c).keep f (j (a.bdat q c)),fun q c=>?_,a.bsnd,?_,a.ne,rfl,a.base⟩,f,fun x b=>?_⟩
 . simp at hm;subst hm
   exact a.ne (by rw[b];rfl)
 . have:=XX a.orow k v
   rw[Bj,CV];exact this
 . rcases AW c with c | rfl
   . exact(a.odat q c).keep f (j (a.odat q c))
   exact m.keep f (j m)
 . rw[CV,a.osnd]
 simp only[AM,AD,Bk] at b;rcases b with b | b | b | ⟨q,c,b⟩ | ⟨q,c,b⟩
 . exact .inl (by subst b;exact h.inI)
 . exact .inl (h.inB x b)
 . exact .inl (h.inO x b)
 . exact .inl (h.inBs c x b)
 rcases AW c with c | rfl
 . exact .inl (h.inOs c x b)
 exact .inr b
theorem setB {d l:Nat} (h:IdlIs w base i (.slice (some d) n l) ov bs os F I) (o:kz w w1) (m:ORow w1 base v (some xs)) :
 ∃ F',IdlIs (w1.setCell (aq d k) v) base i (.slice (some d) n l) ov (bs.set k (v,xs)) os F' { I with base:=I.base.set k xs }/\Keep [d] w1 (w1.setCell (aq d k) v)/\∀ x∈F',x∈F\/x∈v.ownBlock.toList:=by
 have a:=h.kO o;obtain rfl:n=bs.length:=by obtain⟨_,_,e,_⟩:=ZB a.brow;cases e;rfl
 have f:Keep [d] w1 (w1.setCell (aq d k) v):=(Keep.refl [d] w1).sc d k
 have j:∀ {u:Value} {p:Option (List UInt8)},ORow w1 base u p->∀ g∈u.ownBlock.toList,g∉[d]:=fun r g s hm=>by
  simp at hm;subst hm;exact row_ne r a.brow s (by simp[Value.ownBlock])
 refine⟨_,⟨a.blk.keep f (fun hm=>a.iB (by simp at hm;simp[Value.ownBlock,hm])),?_,XB a.orow f (fun x b hm=>?_),fun q c=>?_,fun q c=>(a.odat q c).keep f (j (a.odat q c)),?_,a.osnd,a.ne,rfl,a.base⟩,f,fun x b=>?_⟩
 . have:=XX a.brow k v
   rw[Bj,CV];exact this
 . simp at hm;subst hm
   exact a.ne (by rw[b];rfl)
 . rcases AW c with c | rfl
   . exact(a.bdat q c).keep f (j (a.bdat q c))
   exact m.keep f (j m)
 . rw[CV,a.bsnd]
 simp only[AM,AD,Bk] at b;rcases b with b | b | b | ⟨q,c,b⟩ | ⟨q,c,b⟩
 . exact .inl (by subst b;exact h.inI)
 . exact .inl (h.inB x b)
 . exact .inl (h.inO x b)
 . rcases AW c with c | rfl
   . exact .inl (h.inBs c x b)
   exact .inr b
 exact .inl (h.inOs c x b)
theorem setN (h:IdlIs w base i bv ov bs os F I) (d e f:Nat) (m:Blk w1 i 97 #[bv,ov,ii d,ii e,ii f]) (a:Keep [i] w w1):IdlIs w1 base i bv ov bs os F { I with ep:=d,seq:=e,done:=f }:=by
 have j:∀ {u:Value} {p:Option (List UInt8)},ORow w base u p->ORow w1 base u p:=fun k=>k.keep a (fun g l hm=>by
  simp at hm;subst hm;rcases k with⟨_,rfl⟩ | ⟨xs,_,_,n⟩
  . simp[Value.ownBlock] at l
  exact own_blk_ne n h.blk (by decide) (uq l))
 exact⟨m,XB h.brow a (fun x b hm=>h.iB (by simp at hm;subst hm;simpa using b)),XB h.orow a (fun x b hm=>h.iO (by simp at hm;subst hm;simpa using b)),fun q c=>j (h.bdat q c),fun q c=>j (h.odat q c),h.bsnd,h.osnd,h.ne,h.foot,h.base⟩
theorem cells (h:IdlIs w base i bv ov bs os F I):cl w i bv/\cl w (aq i 1) ov/\cl w (aq i 2) (ii I.ep)/\cl w (aq i 3) (ii I.seq)/\cl w (aq i 4) (ii I.done):=
 ⟨uq (h.blk.cell 0),uq (h.blk.cell 1),uq (h.blk.cell 2),uq (h.blk.cell 3),uq (h.blk.cell 4)⟩
end IdlIs
def QAP (I:PIdl) (k b c e n:Nat):Prop:=(k=1/\b<I.base.length/\c=0/\e=0/\n=64)\/(k=2/\1<=c/\b+c<=I.base.length/\e=0/\n=0)\/(k=3/\b=0/\c=0/\e=I.ep+1/\n=0)
theorem ZAR {w:World} {base i:Nat} {bv ov:Value} {bs:List (Value×List UInt8)} {os:List (Value×Option (List UInt8))} {F:List Nat} {I:PIdl} (h:IdlIs w base i bv ov bs os F I) (E:1<=I.base.length/\I.base.length<=64) (J:I.ep<=1000000) (m:Nat) (A:Option Addr) (j:QAP I k b c e n) :
 cr 158 #[pq i,.agg #[ii k,ii b,ii c,ii e,.slice A n m]] w (.bool true):=by
 obtain⟨BA,K,rfl,_⟩:=ZB h.brow;have l:=h.blen;obtain⟨L,u⟩:=ex bs.length;rw[<- u] at l h;unfold QAP at j;rw[<- l] at j E;have d:=fun W (G:kz w W)=>(h.kO G).cells;generalize I.ep=ep at *;clear h u l;rcases j with⟨rfl,H,rfl,rfl,rfl⟩ | ⟨rfl,H,M,rfl,rfl⟩ | ⟨rfl,rfl,rfl,rfl,rfl⟩
 . show Calls prog 158 #[pq i,.agg #[ii 1,ii b,zz,zz,.slice A 64 m]] w _
   have a:kz w (w.alloc (.cells #[ii 1,ii b,zz,zz,.slice A 64 m] 95)):=kq.alloc _;have f:=Blk.new w 95 #[ii 1,ii b,zz,zz,.slice A 64 m];obtain⟨v,o,p,r,s⟩:=QI f;obtain⟨y,z,t,B,C⟩:=d _ a;clear d;have g:=fun W=>QG (b:Nat) 0 ((L:Nat)-1) true (by simp;omega) W;go_enter func158,ntmps158;go_wp2_with (refine(g _).mono ?_;clear g;rintro e w' ⟨rfl,rfl⟩);go_ret;exact⟨rfl,a⟩
 . show Calls prog 158 #[pq i,.agg #[ii 2,ii b,ii c,zz,.slice A 0 m]] w _
   have a:kz w (w.alloc (.cells #[ii 2,ii b,ii c,zz,.slice A 0 m] 95)):=kq.alloc _;have f:=Blk.new w 95 #[ii 2,ii b,ii c,zz,.slice A 0 m];obtain⟨v,o,p,r,s⟩:=QI f;obtain⟨y,z,t,B,C⟩:=d _ a;clear d;have g:=fun W=>QG (b:Nat) 0 ((L:Nat)-1) true (by simp;omega) W;have D:=fun W=>QG (c:Nat) 1 ((L:Nat)-(b:Nat)) true (by simp;omega) W;go_enter func158,ntmps158
   go_wp2_with (first
    | ((with_reducible refine(g _).mono ?_);clear g;rintro e w' ⟨rfl,rfl⟩)
    | ((with_reducible refine(D _).mono ?_);clear D;rintro e w' ⟨rfl,rfl⟩))
   go_ret;exact⟨rfl,a⟩
 rw[show ((ep+1:Nat):Int)=((ep:Nat):Int)+1 from Z];show Calls prog 158 #[pq i,.agg #[ii 3,zz,zz,ii (((ep:Nat):Int)+1),.slice A 0 m]] w _;have a:kz w (w.alloc (.cells #[ii 3,zz,zz,ii (((ep:Nat):Int)+1),.slice A 0 m] 95)):=kq.alloc _;have f:=Blk.new w 95 #[ii 3,zz,zz,ii (((ep:Nat):Int)+1),.slice A 0 m];obtain⟨v,o,p,r,s⟩:=QI f;obtain⟨y,z,t,B,C⟩:=d _ a;clear d;have N:IntKind.i64.wrap (((ep:Nat):Int)+1)=((ep:Nat):Int)+1:=by rw[AK];omega
 go_enter func158,ntmps158;go_wp2_with fail;refine ZT (fun w'=>cl w' (aq w.heap.size 1) zz/\cl w' (aq w.heap.size 2) zz/\cl w' (aq w.heap.size 3) (ii (((ep:Nat):Int)+1))/\cl w' (aq w.heap.size 4) (.slice A 0 m)/\cl w' (aq i 2) (ii ep)) 16 [[0,1,2,3,4,5,6,7,8,9,10,11,12,13,14,15]] ⟨o,p,r,s,t⟩ ?_;simp only[PI];iterate 16 refine wG ?_
 refine KB ?_;go_wp2_with fail;go_ret;exact⟨rfl,a.drew⟩
structure OpIs (B:Nat) (ops:Nat->POp) (j k b c e:Nat) (xs:List UInt8):Prop where
 op:ops j=⟨k,b,c,e,xs⟩
 may:OpMay k b c e xs.length
 ok:b+max c 1<=B\/k=3
 for_:Vg B ⟨k,b,c,e,xs⟩
theorem OpIs.dev {B:Nat} (h:OpIs B ops j k b c e xs) (n:XBd B ops len) (o:j<len):QAP (idl B ops j) k b c e xs.length:=by
 have p:=(ZAZ B ops j).1;have g:=(n j o).2;rw[h.op] at g;simp only at g;unfold QAP;rw[p];have ho:=h.ok;rcases h.may with⟨a,i,d,l,f⟩ | ⟨a,i,d,l,f,m⟩ | ⟨a,i,d,l,f,m⟩
 . exact .inl ⟨a,Z,d,l,f⟩
 . exact .inr (.inl ⟨a,d,Z,f,m⟩)
 have:=g Z;exact .inr (.inr ⟨a,i,d,Z,m⟩)
def Qg (us:List (Nat×Nat)) (W:PW) (m:Nat) (spare:Bool):Prop:=¬ KP W.pos.off (W.items.length+1) (W.blocks.length+m)/\¬ KP (Qa W) 1 m/\Xq us spare
theorem RoomOk.of {W:PW} {m:Nat} (h:¬ Qg us W m spare) (c:us.length=8):RoomOk us W m spare:=by
 intro d e;have a:¬ Xq us spare:=fun a=>h ⟨d,e,a⟩;unfold Xq at a;have g:YC us<=8:=by unfold YC;rw[<- c];exact List.findIdx_le_length
 have b:YC us<8:=by
  rcases BP (YC us) 8 with h | h
  . exact h
  exact absurd (.inr Z) a
 refine⟨b,?_,fun f=>?_⟩
 . rw[JI Z]
   have:=Ck (p:=fun u:Nat×Nat=>u.1 == 0) (xs:=us) (w:=by unfold YC at b;omega);exact CO.1 this
 rcases BP 2 (YD us) with h | h
 . exact h
 exact absurd (.inl ⟨f,Z⟩) a
theorem YAy {w:World} {base d g t p:Nat} {Fd Ft Fw:List Nat} {B:Nat} {W:PW} (h:LogIs w base d g t p Fd Ft Fw B D us lv W) (ho:W.Ok) {i:PItem} (hi:i.May) (Q:i.k≠7) (R:Qg us W (ZM i) spare) (A:Option Addr) (c:Nat) :
 cr 105 #[pq p,.agg (itc i).toArray,.slice A (64*ZM i) c,.bool spare] w (.tuple #[zz,ii 6]):=by
 obtain⟨y,z,J⟩:=R;obtain⟨k,b,r,v⟩:=i;have S:=hi.bounds;simp only at S Q;have s:=fun W=>Jk hi W;have E:=fun W=>Yp hi W;simp only[itc] at s E ⊢;have o:=Blk.new w 178 #[ii k,ii b,ii r,ii v];have C:=fun a (f:kz w a)=>Ku a base d Fd D (h.kO f).disk;have a0:¬ ((k:Nat):Int)=7:=Z;by_cases K:PItem.loaded ⟨k,b,r,v⟩=true
 . have F:ZM ⟨k,b,r,v⟩=1:=by unfold ZM;rw[AP K]
   rw[F] at y z;rw[F,DY];rw[K] at s;have G:=fun a (f:kz w a)=>JBJ (h.kO f) ho 1 Z y z J;clear y z J;rw[h.off] at C;obtain⟨L,u⟩:=ex (w.alloc (.cells #[ii k,ii b,ii r,ii v] 178));have M:kz w L:=by rw[u];exact kq.alloc _
   rw[<- u] at o;obtain⟨b0,b1,j,l⟩:=YK o
   have N:∀ {a},kz w a->cl a p (pq d):=fun f=>by
    obtain⟨I,T,ls,O⟩:=h.wri;exact(ZE (O.blk.kO f)).1
   go_enter func105,ntmps105;go_wp2_with fail;rw[<- u]
   go_wp2_with (first
    | (go_at_call 212
       refine(s _).mono ?_;clear s b0 b1 j l;rintro e w1 ⟨rfl,H⟩
       obtain⟨b0,b1,j,l⟩:=YK (o.kO H))
    | (go_at_call 236
       refine(E _).mono ?_;clear E b0 b1 j l;rintro e U ⟨rfl,m⟩;replace m:=H.tO m;have n:=M.tO m;have V:=N n
       obtain⟨b0,b1,j,l⟩:=YK (o.kO m))
    | (go_at_call 134
       refine(C _ n).mono ?_;clear C
       rintro e w' ⟨rfl,rfl⟩)
    | (go_at_call 237
       refine(G _ n).mono ?_;clear G;rintro e X ⟨rfl,P⟩))
   go_ret2;exact⟨rfl,n.tO P⟩
 have Y:PItem.loaded ⟨k,b,r,v⟩=false:=uq K;have F:ZM ⟨k,b,r,v⟩=0:=by unfold ZM;rw[AL K]
 rw[F] at y z;rw[F,Nat.mul_zero];rw[Y] at s;have G:=fun a (f:kz w a)=>JBJ (h.kO f) ho 0 Z y z J;clear y z J;rw[h.off] at C;obtain⟨L,u⟩:=ex (w.alloc (.cells #[ii k,ii b,ii r,ii v] 178));have M:kz w L:=by rw[u];exact kq.alloc _
 rw[<- u] at o;obtain⟨b0,b1,j,l⟩:=YK o
 have N:∀ {a},kz w a->cl a p (pq d):=fun f=>by
  obtain⟨I,T,ls,O⟩:=h.wri;exact(ZE (O.blk.kO f)).1
 go_enter func105,ntmps105;go_wp2_with fail;rw[<- u]
 go_wp2_with (first
  | (go_at_call 212
     refine(s _).mono ?_;clear s b0 b1 j l;rintro e w1 ⟨rfl,H⟩
     obtain⟨b0,b1,j,l⟩:=YK (o.kO H))
  | (go_at_call 236
     refine(E _).mono ?_;clear E b0 b1 j l;rintro e U ⟨rfl,m⟩;replace m:=H.tO m;have n:=M.tO m;have V:=N n
     obtain⟨b0,b1,j,l⟩:=YK (o.kO m))
  | (go_at_call 134
     refine(C _ n).mono ?_;clear C
     rintro e w' ⟨rfl,rfl⟩)
  | (go_at_call 237
     refine(G _ n).mono ?_;clear G;rintro e X ⟨rfl,P⟩))
 go_ret2;exact⟨rfl,n.tO P⟩
section
variable (w:World) (base s d:Nat) (F:List Nat) (B:Nat) (S:PS) (h:StoreAt w base s d F B S) (ho:S.W.Ok) (hm:S.st.mode=1)
include h ho hm
/- Lemmas of the proof, with their conditions. -/
import Derived.Test.YtfedaknhecbehaaGreatL46
namespace Go.Proofs.YtfedaknhecbehaaGreat
open Tryz Go.RowKit Go.Shelf
variable {m:Nat}
set_option linter.all false
set_option maxHeartbeats 4000000
set_option maxRecDepth 20000
theorem QBY {w:World} {base f p:Nat} {F c r:List Nat} {I:PImage} (h:ImageIs w base m f p F c r I) (b n:Nat) (U:1<=n) (V:b+n<=I.bl.length) :
 Calls prog 323 #[pq m,.bool false,b,n] w fun e w'=>∃ G,e=.returned (.tuple #[G,.bool true])/\w'.ownsRow w.heap.size 3 1 G (XF b n I.bl I.bd).1.length (VM (XF b n I.bl I.bd).1) /\
  PagedAt w' base f c (XF b n I.bl I.bd).2.1 (XF b n I.bl I.bd).2.2/\Keep c w w':=by
 have a2:=h.b.few.2;have W:=Qp w base m f p F c r I h b n U V;have a3:=(KH b 0 I.bl I.bd).1;go_enter func323,ntmps323;go_wp2_with (go_at_call 328;refine W.mono ?_;rintro e w' ⟨rfl,rfl⟩)
 go_loopw [8,10,11,18] (fun G _ _ i wr=>∃ (k:Nat) (s:List Int×List Int×List Bool),k<=n/\i=.int .i64 k/\Hid (s=XF b k I.bl I.bd)/\wr.ownsRow w.heap.size 3 1 G s.1.length (VM s.1)/\PagedAt wr base f c s.2.1 s.2.2/\Keep c w wr)
  (fun _ _ _ i _=>n-(intOf i).toNat)
 case atStart=>exact⟨0,_,AS _,rfl,rfl,Ab _ _ _ _,h.b,kq⟩
 obtain⟨k,s,hk,rfl,j,d,v,o⟩:=hrel
 have a4:s.1.length<=64:=by
  have:=(KL b k I.bl I.bd 0 Z h.ok.2.1).2.2;rw[<- JA j] at this;omega
 have X:s.2.1.length=I.bl.length:=by rw[JA j];exact(KH b k I.bl I.bd).1
 by_cases a5:k<n
 . have a6:((k:Nat):Int)<(n:Nat):=Z
   have E:b+k<s.2.1.length:=Z;have H:ImageIs wr base m f p F c r { I with bl:=s.2.1,bd:=s.2.2 }:=h.setB v o X (by rw[JA j];exact(KL b k I.bl I.bd 0 Z h.ok.2.1).1);have J:=JN wr base m f p F c r _ H false;have t:=Vr v (b+k) E 0;have K:XF b (k+1) I.bl I.bd=XN b s k:=by rw[KS,<- JA j]
   have L:=Yg E
   have Y:=Ya (x:=s.2.1[b+k]) (z:=0) (by
    have:=(KL b k I.bl I.bd 0 Z h.ok.2.1).1 s.2.1[b+k] (by rw[<- JA j];exact AQ _);exact⟨Z,this.2⟩)
   have M:=JB K;have N:=JB L;have a7:IntKind.i64.wrap ((b:Nat)+(k:Nat):Int)=(b:Nat)+(k:Nat):=by rw[AK];omega
   clear K L H;rw[show (((b+k:Nat):Nat):Int)=(b:Nat)+(k:Nat) from Z] at t;obtain⟨O,P,rfl,_⟩:=ZB d;obtain⟨y,A⟩:=ex (QF s.2.1[b+k] 0);rw[<- A] at t Y;have Q:=JB A;clear A;by_cases a0:0<y
   . go_wp2_with (first
      | (go_at_call 230;refine J.mono ?_;rintro e w' ⟨rfl,rfl⟩)
      | (go_at_call 240;refine t.mono ?_;rintro e w1 ⟨rfl,B,l⟩;(have u:=XB d l (fun g C hm=>by have:=(own_mem d (g:=g) (uq C)).1;have:=h.b.lt g hm;omega)))
      | (refine elemInts.wp_app rfl (.tmp 30) (.tmp 32) rfl w.heap.size _ s.1.length (VM s.1) rfl (KD u _) _ 1 1 [.int .i64 y] rfl (JT _ _ _) (by simp[Value.oneCell']) Z Z (by have:=o.size;have:=l.size;simp;omega) ?_;rintro a8 w2 R a1 _ _;(obtain⟨a9,aa,rfl,_⟩:=ZB R);(have S:Keep (Value.slice O s.1.length P).ownBlock.toList w1 w2:=(kq.alloc _).trans a1 (fun x a=>.inl a))))
     go_roundw
     case rel=>
      have D:XN b s k=(s.1++[y],s.2.1.set (b+k) 0,KF s.2.1 s.2.2 (b+k) 0):=by unfold XN;rw[JA N,<- JA Q,AP a0]
      have T:=fun x a=>(own_mem u (g:=x) a).1;refine⟨k+1,_,Z,by go_num,(by show _=_;rw[JA M,D]),by simpa [VM,i64] using R,B.keep S (fun x a hm=>by have:=h.b.lt x a;have:=T x hm;omega),(o.trans l (fun x a=>.inl a)).trans S (fun x a=>.inr (T x a))⟩
     case measure=>simp[intOf];omega
   go_wp2_with (first
    | (go_at_call 230;refine J.mono ?_;rintro e w' ⟨rfl,rfl⟩)
    | (go_at_call 240;refine t.mono ?_;rintro e w1 ⟨rfl,B,l⟩;(have u:=XB d l (fun g C hm=>by have:=(own_mem d (g:=g) (uq C)).1;have:=h.b.lt g hm;omega))))
   go_roundw
   case rel=>
    have D:XN b s k=(s.1,s.2.1.set (b+k) 0,KF s.2.1 s.2.2 (b+k) 0):=by unfold XN;rw[JA N,<- JA Q,AL Z,Ba]
    exact⟨k+1,(s.1,s.2.1.set (b+k) 0,KF s.2.1 s.2.2 (b+k) 0),Z,by go_num,(by show _=_;rw[JA M,D]),u,B,o.trans l (fun x a=>.inl a)⟩
   case measure=>simp[intOf];omega
 obtain rfl:k=n:=Z;obtain⟨O,P,rfl,_⟩:=ZB d;go_wp2_with fail;go_ret2;rw[<- JA j];exact⟨_,rfl,d,v,o⟩
theorem XBP {w:World} {base:Nat} {F:List Nat} {I:PImage} (h:ImageAt w base m F I) (b n:Nat) (f:1<=n) (g:b+n<=I.bl.length) :
 Calls prog 247 #[pq m,b,n] w fun e w'=>∃ G,e=.returned (.tuple #[G,.bool true])/\w'.ownsRow w.heap.size 3 1 G (XF b n I.bl I.bd).1.length (VM (XF b n I.bl I.bd).1) /\
  ImageAt w' base m F { I with bl:=(XF b n I.bl I.bd).2.1,bd:=(XF b n I.bl I.bd).2.2 }/\Keep F w w':=by
 obtain⟨i,j,k,l,h⟩:=h;have o:=QBY h b n f g;have a:=(KH b n I.bl I.bd).1;have p:=(KL b n I.bl I.bd 0 Z h.ok.2.1).1;generalize XF b n I.bl I.bd=s at *;have r:=JB a;clear a;go_enter func247,ntmps247;go_wp2_with (refine o.mono ?_;rintro e w1 ⟨G,rfl,c,t,d⟩;obtain⟨u,v,rfl,_⟩:=ZB c);go_ret2;exact⟨_,rfl,c,⟨i,j,k,l,h.setB t d (JA r) p⟩,d.sub h.subB⟩
theorem KAw {w:World} {base s d:Nat} {F:List Nat} {B:Nat} {S:PS} (h:StoreAt w base s d F B S) {k j:Nat} (f:Good B S k j) (af:RoomOk S.us S.W 0 false) (hj:j<=100000) (hm:S.st.mode=2) (b n:Nat) (C:1<=n) (D:b+n<=B) :
 Calls prog 122 #[pq s,b,n] w fun e w'=>e=.returned zz/\∃ F' S',StoreAt w' base s d F' B S'/\Dropped B S b n S'/\Keep F w w'/\Grow w F F':=by
 obtain⟨g,t,p,m,Fd,Ft,Fw,i,o,r,h,rfl⟩:=h;have a6:=ZY w base s d g t p m Fd Ft Fw i o r B S h b n C D;have a7:=QS w base s d g t p m Fd Ft Fw i o r B S h 2 (.inr hm.symm);have ag:PItem.May ⟨6,b,n,0⟩:=.inr (.inl ⟨.inr rfl,by have:=f.b64;simp only;omega,C,by have:=f.b64;simp only;omega,rfl⟩);have b5:=f.cap.acts;have b6:=f.cap.lsn;have y:=QAG h.log f.cap.ok f.cap.off Z Z f.cap.opn ag sq af (A:=none) 0 [] (by rw[show 64*ZM ⟨6,b,n,0⟩=0 by simp[ZM,PItem.loaded]];exact Rd.nil w none) (fun x c=>by cases c);rw[show 64*ZM ⟨6,b,n,0⟩=0 by simp[ZM,PItem.loaded]] at y;simp only[itc] at y;have a8:=h.blk;have ah:s∉Fd++(Ft++Fw):=fun hm=>h.aps (by simp only[AM,AD] at hm ⊢;rcases hm with hm | hm | hm <;> simp[hm]);have a9:=(Yz b n S.I.bl S.I.bd (fun x c=>.inr (f.brefs x c)) (by rw[f.bl];exact D)).2;have ai:=(KL b n S.I.bl S.I.bd 0 Z h.img.ok.2.1).2.2;have b7:=f.b64;obtain⟨E,z⟩:=ex (XF b n S.I.bl S.I.bd);have aj:E.2.1.length=S.I.bl.length:=by rw[z];exact(KH b n S.I.bl S.I.bd).1
 rw[<- z] at a9 ai;have aa:=JB z;clear z;obtain⟨H,I,J,K,L,M,N,O,P,Q,R,T,U,V,W,X,Y,a0⟩:=KC a8;go_enter func122,ntmps122
 go_wp2_with (first
  | (go_at_call 109
     refine a6.mono ?_;clear a6
     rintro e w' ⟨rfl,rfl⟩)
  | (go_at_call 93
     refine a7.mono ?_;clear a7
     rintro e w' ⟨rfl,rfl⟩)
  | (go_at_call 105
     refine y.mono ?_;clear y H I J K L M N O P Q R T U V W X Y a0;rintro e w1 ⟨a,rfl,ab,ac,ak,al,am,an,h1,ao,a1,ap,ar⟩;have au:=a8.keep a1 ah;obtain⟨H,I,J,K,L,M,N,O,P,Q,R,T,U,V,W,X,Y,a0⟩:=KC au;obtain⟨a2,av⟩:=h.setLog h1 a1 ap ar;have a3:=XBP a2.img b n C (by rw[h.blen];exact D)
     rw[<- JA aa] at a3)
  | (go_at_call 247
     refine a3.mono ?_;clear a3 H I J K L M N O P Q R T U V W X Y a0;rintro e w3 ⟨G,rfl,a4,aw,ad⟩;obtain⟨ax,gc,rfl,_⟩:=ZB a4;have ay:=a2.setImg aw (uq aj) ad;have az:∀ x∈Ft,x<w1.heap.size:=fun x c=>a2.log.tab.lt x c
     have ae:=Yf _ base s d g t p m ab Ft ac i o r B _ ay 0 (.inl rfl) ax E.1.length gc E.1 (Rd.of_own a4) a9 Z (fun x c hm=>by
      have q1:=az _ hm;have q2:=(own_mem a4 (g:=x.block) (by rw[c];simp[Value.ownBlock])).1;omega)))
 go_wp2_with (refine ae.mono ?_;clear ae;rintro e w4 ⟨rfl,b0,b1⟩);go_ret;have a5:∀ {l:List Nat} {u v:World},(∀ x∈l,x=s\/x∈Fd\/x∈Ft\/x∈Fw\/x∈i)->Keep l u v->Keep (ZN s g Fd Ft Fw i o r) u v:=fun hl hk=>hk.sub (YAt hl);have b2:=a5 (by intro x c;simp only[AD] at c;rcases c with h | h | h <;> simp[h]) a1;have b3:=b2.trans (a5 (by intro x c;simp[c]) ad) (fun x c=>.inl c);have b4:=b3.trans (a5 (by intro x c;simp[c]) b1) (fun x c=>.inl c);refine⟨rfl,_,_,⟨g,t,p,m,ab,Ft,ac,i,o,r,b0,rfl⟩,⟨ak,al,am,an,a,ao,?_⟩,b4,av⟩;rw[<- JA aa]
section
variable (w:World) (base s d:Nat) (F:List Nat) (B:Nat) (S:PS) (h:StoreAt w base s d F B S) (ho:S.W.Ok) (hm:S.st.mode=2)
include h ho hm
theorem QBj (b:Nat) (u:b<B) (v:B<=64) (A:Option Addr) (c:Nat) (n:Qg S.us S.W 1 false) :
 cr 120 #[pq s,b,.slice A 64 c] w (ii 6):=by
 obtain⟨g,t,p,m,Fd,Ft,Fw,f,i,j,h,rfl⟩:=h;have k:=ZY w base s d g t p m Fd Ft Fw f i j B S h b 1 Z Z;have l:=QS w base s d g t p m Fd Ft Fw f i j B S h 2 (.inr hm.symm);have o:PItem.May ⟨5,b,0,0⟩:=.inl ⟨.inr rfl,by simp only;omega,rfl,rfl⟩;have a:=YAy h.log ho o sq n A c;rw[show 64*ZM ⟨5,b,0,0⟩=64 by simp[ZM,PItem.loaded]] at a;simp only[itc] at a;obtain⟨y,z,C,D,E,F,G,H,I,J,K,L,M,N,O,P,Q,R⟩:=KC h.blk;go_enter func120,ntmps120
 go_wp2_with (first
  | (go_at_call 109;refine k.mono ?_;clear k;rintro e w' ⟨rfl,rfl⟩)
  | (go_at_call 93;refine l.mono ?_;clear l;rintro e w' ⟨rfl,rfl⟩)
  | (go_at_call 105;refine a.mono ?_;clear a;rintro e w1 ⟨rfl,r⟩))
 go_ret;exact⟨rfl,r⟩
theorem JBX (b n:Nat) (c:1<=n) (o:b+n<=B) (y:B<=64) (r:Qg S.us S.W 0 false) :
 cr 122 #[pq s,b,n] w (ii 6):=by
 obtain⟨g,t,p,m,Fd,Ft,Fw,f,i,j,h,rfl⟩:=h;have k:=ZY w base s d g t p m Fd Ft Fw f i j B S h b n c o;have l:=QS w base s d g t p m Fd Ft Fw f i j B S h 2 (.inr hm.symm);have u:PItem.May ⟨6,b,n,0⟩:=.inr (.inl ⟨.inr rfl,by simp only;omega,c,by simp only;omega,rfl⟩);have a:=YAy h.log ho u sq r none 0;rw[show 64*ZM ⟨6,b,n,0⟩=0 by simp[ZM,PItem.loaded]] at a;simp only[itc] at a;obtain⟨z,A,C,D,E,F,G,H,I,J,K,L,M,N,O,P,Q,R⟩:=KC h.blk;go_enter func122,ntmps122
 go_wp2_with (first
  | (go_at_call 109;refine k.mono ?_;clear k;rintro e w' ⟨rfl,rfl⟩)
  | (go_at_call 93;refine l.mono ?_;clear l;rintro e w' ⟨rfl,rfl⟩)
  | (go_at_call 105;refine a.mono ?_;clear a;rintro e w1 ⟨rfl,v⟩))
 go_ret;exact⟨rfl,v⟩
theorem QBS (k j:Nat) (f:Good B S k j) (G:j<=100000) :
 Calls prog 124 #[pq s] w fun e w'=>e=.returned zz/\∃ F' S',StoreAt w' base s d F' B S'/\Synced B S S'/\Keep F w w'/\Grow w F F':=by
 obtain⟨g,t,p,m,Fd,Ft,Fw,a,b,c,h,rfl⟩:=h;have i:=QS w base s d g t p m Fd Ft Fw a b c B S h 2 (.inr hm.symm);have H:=f.cap.acts;have I:=f.cap.lsn;have l:=ZAP w base s d g t p m Fd Ft Fw a b c B S h ho Z Z;go_enter func124,ntmps124
 go_wp2_with (first
  | (go_at_call 93;refine i.mono ?_;clear i;rintro e w' ⟨rfl,rfl⟩)
  | (go_at_call 106;refine l.mono ?_;clear l;rintro e w1 ⟨rfl,u,v,y,z,A,n,C,o,D,E⟩))
 go_ret;refine⟨rfl,_,_,⟨g,t,p,m,u,Ft,v,a,b,c,n,rfl⟩,⟨y,z,A,C,rfl⟩,o.sub (YAt (by intro x r;simp only[AD] at r;rcases r with h | h | h <;> simp[h])),(h.setLog n.log o D E).2⟩
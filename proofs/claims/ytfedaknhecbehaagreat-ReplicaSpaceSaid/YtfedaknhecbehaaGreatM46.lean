/- Lemmas of the proof, with their conditions. -/
import Derived.Test.YtfedaknhecbehaaGreatM45
import Derived.Test.YtfedaknhecbehaaGreatM34
namespace Go.Proofs.YtfedaknhecbehaaGreat
open Tryz Go.RowKit Go.Shelf
variable {D D':PDisk} {us us':List (Nat×Nat)} {W W':PW} {k a b old c v n f m ep e cp:Nat} {lv lv' Fs':List Nat} {bs xs:List UInt8} {S':PS} {o:POp} {A:Option Addr}
set_option linter.all false
set_option maxHeartbeats 4000000
set_option maxRecDepth 20000
theorem Emitted.relO {B:Nat} (a:Emitted B D us W D' us' W') (lv:List Nat):relO us' lv 8=relO us lv 8:=by
 unfold Go.Proofs.YtfedaknhecbehaaGreat.relO;refine List.filter_congr (fun s _=>?_);unfold ZQ;have:=a.stOf s;unfold Go.Proofs.YtfedaknhecbehaaGreat.stOf at this;rw[this]
theorem JAK {w:World} {base s d:Nat} {F:List Nat} {B:Nat} {S:PS} (h:StoreAt w base s d F B S) {j:Nat} (wl:Well B S j) (K:j<=90000) (f:S.st.gen<=100000) (i:1<=S.st.view/\S.st.view<=2147483647) (k:S.st.mode=1\/S.st.mode=2) :
 Calls prog 21 #[pq s] w fun e w'=>∃ u a S',e=.returned (.tuple #[u,zz])/\w'.ownsRow w.heap.size 3 1 u (relO S.us S.lv 8).length (XP (relO S.us S.lv 8)) /\
  StoreAt w' base s d a B S'/\Checked B S S'/\Keep F w w'/\Grow w F a:=by
 obtain⟨g,t,p,m,Fd,Ft,Fw,l,L,M,h,rfl⟩:=h;have N:=wl.good.cap.lsn;have O:=wl.good.cap.acts;refine(YAA h wl.good.cap.ok Z Z wl.ext.slot wl.ext.lie0 wl.ext.lie1 (QAe wl.pos wl.good wl.ext Z f i k)).mono ?_;rintro e w' ⟨u,n,P,o,Fw',q,r,v,y,z,D',A,C,rfl,b,c,D,E,G,H,I,J,rfl,rfl⟩;rw[c.relO] at b;exact⟨u,_,_,rfl,b,⟨g,t,p,m,o,Ft,Fw',l,q,r,H,rfl⟩,⟨v,y,z,D',A,C,c,D,E,G,rfl⟩,I,J⟩
section
variable (w:World) (base s d:Nat) (F:List Nat) (B:Nat) (S:PS) (h:StoreAt w base s d F B S) (j:Nat) (wl:Well B S j)
include h wl
theorem JBJ (O:j<=90000):cr 103 #[pq s] w (.bool (Xj S)):=by
 obtain⟨g,t,p,m,Fd,Ft,Fw,q,r,v,h,rfl⟩:=h;have f:=GeomS_is w base s d g t p m Fd Ft Fw q r v B S h;have y:=fun W (i:kz w W)=>TableS_is W base s d g t p m Fd Ft Fw q r v B S (h.kO i);have l:=PosS_is w base s d g t p m Fd Ft Fw q r v B S h;have F:=wl.good.cap.lsn;have n:=fun W (i:kz w W)=>VAu S.W.pos.lsn (h.kO i).log.tab (h.log.geom.kO i) Z (fun u G=>(wl.ext.segs.2.1 u G).2) (fun k=>LiveOk.small wl.ext.liv wl.good k);have A:=fun W (i:kz w W)=>Ys (h.kO i).log.tab;have Q:=fun(H I J K L:Value) W=>KE (P:=prog) underlying49 2 rfl isAgg3 #[H,I,J,K,L] rfl W;have C:Xj S=((Ve S.us S.lv S.W.pos.lsn).isSome && decide (YB S.us<=2)):=rfl;rw[C];have c:=y w kq;clear h wl F C;generalize Ve S.us S.lv S.W.pos.lsn=pk at *;generalize S.W.pos=P at *;obtain⟨R,T,U,V,X⟩:=P;simp only at *;generalize YB S.us=fc at *;rcases pk with _ | pk
 . go_enter func103,ntmps103
   go_wp2_with (first
    | (go_at_call 17;refine f.mono ?_;clear f;rintro e w' ⟨rfl,rfl⟩)
    | (go_at_call 14;refine c.mono ?_;clear c;rintro e w' ⟨rfl,rfl⟩)
    | (go_at_call 18;refine l.mono ?_;clear l;rintro e w1 ⟨rfl,a⟩)
    | (go_at_call 16;refine(n _ a).mono ?_;clear n;rintro e D ⟨rfl,b⟩))
   go_ret;exact⟨rfl,a.tO b⟩
 by_cases E:fc<=2
 . have M:((fc:Nat):Int)<=2:=Z
   go_enter func103,ntmps103
   go_wp2_with (first
    | (go_at_call 17;refine f.mono ?_;clear f;rintro e w' ⟨rfl,rfl⟩)
    | (go_at_call 14;refine c.mono ?_;clear c;rintro e w' ⟨rfl,rfl⟩)
    | (go_at_call 18;refine l.mono ?_;clear l;rintro e w1 ⟨rfl,a⟩)
    | (go_at_call 16;refine(n _ a).mono ?_;clear n;rintro e D ⟨rfl,b⟩;have c:=y _ (a.tO b);have o:=A _ (a.tO b))
    | (go_at_call 100;refine o.mono ?_;clear o;rintro e N ⟨rfl,z⟩))
   go_ret;exact⟨JF (by simp[E]),(a.tO b).tO z⟩
 have M:¬ ((fc:Nat):Int)<=2:=Z
 go_enter func103,ntmps103
 go_wp2_with (first
  | (go_at_call 17;refine f.mono ?_;clear f;rintro e w' ⟨rfl,rfl⟩)
  | (go_at_call 14;refine c.mono ?_;clear c;rintro e w' ⟨rfl,rfl⟩)
  | (go_at_call 18;refine l.mono ?_;clear l;rintro e w1 ⟨rfl,a⟩)
  | (go_at_call 16;refine(n _ a).mono ?_;clear n;rintro e D ⟨rfl,b⟩;have c:=y _ (a.tO b);have o:=A _ (a.tO b))
  | (go_at_call 100;refine o.mono ?_;clear o;rintro e N ⟨rfl,z⟩))
 go_ret;exact⟨JF (by simp[E];omega),(a.tO b).tO z⟩
def VAp (w w':World) (base s d:Nat) (F:List Nat) (B:Nat) (S:PS) (e:Ending):Prop:=
 (Ve S.us S.lv S.W.pos.lsn=none/\e=.returned (.tuple #[zz,zz,ii 5])/\kz w w') \/
 ∃ x T F' S',Ve S.us S.lv S.W.pos.lsn=some x/\ClList B S x.2.2 T/\StoreAt w' base s d F' B S'/\Keep F w w'/\Grow w F F' /\
   ((e=.returned (.tuple #[.int .i64 (x.2.2:Nat),.int .i64 (T.length:Nat),zz])/\Moves B S T S') \/
    (e=.returned (.tuple #[zz,zz,ii 6])/\∃ T1 T2,T=T1++T2/\Moves B S T1 S'/\SpaceNo S'.us S'.W 1 true))
theorem JBA (hj:j<=89000):Calls prog 19 #[pq s] w fun e w'=>VAp w w' base s d F B S e:=by
 have X:=h;obtain⟨g,t,p,m,Fd,Ft,Fw,D,E,G,h,c5⟩:=h;have Y:=offC_is w base s d g t p m Fd Ft Fw D E G B S h;have ab:=fun W (b:kz w W)=>GeomS_is W base s d g t p m Fd Ft Fw D E G B S (h.kO b);have a0:=TableS_is w base s d g t p m Fd Ft Fw D E G B S h;have H:=PosS_is w base s d g t p m Fd Ft Fw D E G B S h;have am:=wl.good.cap.lsn;have r:=fun W (b:kz w W)=>VAu S.W.pos.lsn (h.kO b).log.tab (h.log.geom.kO b) Z (fun u hu=>(wl.ext.segs.2.1 u hu).2) (fun k=>LiveOk.small wl.ext.liv wl.good k);have bc:=fun(bd ac ad ae an:Value) W=>KE (P:=prog) underlying49 2 rfl isAgg3 #[bd,ac,ad,ae,an] rfl W;obtain⟨pk,K⟩:=ex (Ve S.us S.lv S.W.pos.lsn);rw[<- K] at r;have L:=ab w kq;obtain⟨ao,a1⟩:=ex S.W.pos;rw[<- a1] at H r;have af:=ZB K;have c6:=ZB a1;rcases pk with _ | x
 . clear K a1 am
   obtain⟨bf,bg,bh,bi,bj⟩:=ao;simp only at *;go_enter func19,ntmps19
   go_wp2_with (first
    | (go_at_call 89;refine Y.mono ?_;clear Y;rintro e w' ⟨rfl,rfl⟩)
    | (go_at_call 17;refine L.mono ?_;clear L;rintro e w' ⟨rfl,rfl⟩)
    | (go_at_call 14;refine a0.mono ?_;clear a0;rintro e w' ⟨rfl,rfl⟩)
    | (go_at_call 18;refine H.mono ?_;clear H;rintro e w1 ⟨rfl,I⟩)
    | (go_at_call 16;refine(r _ I).mono ?_;clear r;rintro e w2 ⟨rfl,c⟩))
   go_ret3;exact .inl ⟨(ZA af).symm,rfl,I.tO c⟩
 obtain⟨M,x2,x3,x4,x5⟩:=Zw K.symm
 obtain⟨ap,bk,R,hl,z⟩:=wl.cl M x2;obtain⟨v,hv⟩:=ex x.2.2;have ar:(Option.getD (some x) (0,0,0)).2.2=v:=hv.symm;rw[ar] at r;rw[<- hv] at M x2 z ap;obtain⟨p0,b0,au,ag,bl,av⟩:=hl.begins v M (by unfold stOf;omega)
 have N:=fun W (b:kz w W)=>QAj (h.log.geom.kO b) (h.kO b).log.disk (h.kO b).img h.blen h.log.off h.log.many Z (fun k bm=>by
  rw[AC (by rw[wl.good.flen];exact bm),wl.good.flt _ (AN _)]) au (fun y l=>by
  rw[ag] at l;obtain⟨ac,ad,ae,an,bn⟩:=av y l;exact⟨ac,ad,ae,fun i hi bo=>hl.own v M y.2 bn i hi bo⟩) Z
 rw[ag] at N;obtain⟨T,aw⟩:=ex (JO S.I B (placed (bk v) (R v)));rw[<- aw] at N z;have bp:=z.len;have ax:=fun W (b:kz w W)=>DiskS_is W base s d g t p m Fd Ft Fw D E G B S (h.kO b);have ay:=fun W (b:kz w W)=>ImageS_is W base s d g t p m Fd Ft Fw D E G B S (h.kO b);have az:=X.lt;have bq:=X.ge;have br:Hid (StoreAt w base s d F B S):=X;have ah:=ZB hv;have ai:=ZB z;have bs:Hid (Well B S j):=wl;have bt:=ZB az;obtain⟨A,aj⟩:=ex T.length;rw[<- aj] at N bp;have a2:=ZB aj;clear K a1 am z hl au av aw hv ar M x2 x3 x4 x5 ap X h wl aj az bq ag bl;obtain⟨bf,bg,bh,bi,bj⟩:=ao;simp only at H r;go_enter func19,ntmps19
 go_wp2_with (first
  | (go_at_call 89;refine Y.mono ?_;clear Y;rintro e w' ⟨rfl,rfl⟩)
  | (go_at_call 17;refine L.mono ?_;clear L;rintro e w' ⟨rfl,rfl⟩)
  | (go_at_call 14;refine a0.mono ?_;clear a0;rintro e w' ⟨rfl,rfl⟩)
  | (go_at_call 18;refine H.mono ?_;clear H;rintro e w1 ⟨rfl,I⟩)
  | (go_at_call 16
     refine(r _ I).mono ?_;clear r;rintro e w2 ⟨rfl,c⟩;replace c:=I.tO c;have L:=ab _ c;have b1:=ax _ c
     have b2:=ay _ c)
  | (go_at_call 91;refine b1.mono ?_;clear b1;rintro e w' ⟨rfl,rfl⟩)
  | (go_at_call 71;refine b2.mono ?_;clear b2;rintro e w' ⟨rfl,rfl⟩)
  | (go_at_call 90
     refine(N _ c).mono ?_;clear N;rintro e w3 ⟨U,rfl,b3,O⟩;replace O:=c.tO O;have n:=VC b3 c.size;obtain⟨ak,uc,rfl,_⟩:=XB n))
 clear ab ax ay b3 I c bc;go_loopw [2,41] (fun a i wr=>∃ (q:Nat) (J:List Nat) (S':PS),a=.int .i64 (v:Nat)/\q<=A/\i=.int .i64 (q:Nat)/\StoreAt wr base s d J B S'/\Hid (Moves B S (T.take q) S')/\wr.ownsRow w.heap.size 164 2 (.slice ak A uc) A (T.flatMap blc)/\(∀ y∈(Value.slice ak A uc).ownBlock.toList,y∉J)/\Keep F w wr/\Grow w F J) (fun _ i _=>A-(intOf i).toNat)
 case atStart=>
  refine⟨0,F,S,rfl,AP _,rfl,(show StoreAt w base s d F B S from ZA br).kO O,Moves.nil,n,fun y l hm=>?_,O.zero,Grow.refl _ _⟩;have C:=(own_mem n l).1;have h2:=ZA bt y hm;omega
 clear n O;obtain⟨q,J,S',rfl,hq,rfl,a3,Q,n,b4,a4,a5⟩:=hrel;by_cases bu:q<A
 . have c7:((q:Nat):Int)<(A:Nat):=Z
   have a6:q<T.length:=by rw[<- ZA a2];exact bu
   have b5:T.take (q+1)=T.take q++[T[q]]:=AO a6;have b6:T.drop q=T[q] :: T.drop (q+1):=Bt a6;have z:ClList B S v T:=ZA ai;obtain⟨w1,-,-,-,m1⟩:=(ZA Q).well (show Well B S j from ZA bs) (by rw[BH];omega) (T.drop q) (by rw[CZ];exact z.ok);obtain⟨a7,al⟩:=m1.1 T[q] (by rw[b6];exact .head _);rw[BH] at w1
   have bv:T[q].1<B/\T[q].2<100000:=by
    obtain⟨C,h2,h3⟩:=w1.good.ref a7 al;have:=h3.hi;have:=(ZD w1.good.b1 w1.good.b64).2;exact⟨C,Z⟩
   obtain⟨g1,rfl⟩:∃ g1,ak=some ⟨g1,0,none⟩:=by
    obtain⟨bw,c8,he,_⟩:=YD n Z;cases he;exact⟨bw,rfl⟩
   have a8:=Rd.of_ownN n;have c9:g1<wr.heap.size:=(own_mem n (g:=g1) (by simp[Value.ownBlock])).2;rw[ZA a2] at a8;have r0:=(VI (f:=blc) (fun _=>rfl) a8 a6 (j:=0) Z).2;have r1:=(VI (f:=blc) (fun _=>rfl) a8 a6 (j:=1) Z).2;have bx:=ZB b5;have b7:=ZB w1;have b8:=ZB al;have a9:=w1.room 1 true;clear b5 b6 z m1 w1 al a8;generalize T[q]=y at *;obtain⟨yb,ya⟩:=y;simp only[blc,Bj,BX,BK] at r0 r1 bv a7;have o:=(Keep.refl [] wr).alloc (.cells #[ii yb,ii ya] 164);have aa:=a3.kO o;have b9:=ZB o;rcases a9 with a9 | ba
   . have V:=JAr aa (ZA b7).good a9 Z a7 (ZA b8)
     clear a3 aa o;go_wp2_with (go_at_call 92;refine V.mono ?_;clear V;rintro e w5 ⟨rfl,bz,bb,C,h2,h3,h4⟩);go_roundw
     case rel=>
      have o:=ZA b9;have c2:=o.zero.trans h3 (fun y l=>.inl l);refine⟨q+1,bz,bb,rfl,Z,by go_num,C,?_,KA n c2 (fun y l=>b4 y (uq l)),fun y l hm=>?_,(a4.tO o).trans h3 a5,a5.trans a4.size (h4.keep o)⟩
      . show Moves B S (T.take (q+1)) bb
        rw[ZA bx];exact Moves.snoc (ZA Q) a9 h2
      rcases h4 y hm with h5 | h5
      . exact b4 y l h5
      have:=(own_mem n l).2
      have:=o.size;omega
     case measure=>simp[intOf];omega
   have V:=KBR aa (ZA b7).good ba a7 (ZA b8)
   clear a3 o;go_wp2_with (go_at_call 92;refine V.mono ?_;clear V;rintro e w5 ⟨rfl,C⟩);go_ret3;refine .inr ⟨x,T,J,S',(ZA af).symm,by rw[<- ZA ah];exact ZA ai,aa.kO C,(a4.tO (ZA b9)).tO C,a5,.inr ⟨rfl,T.take q,T.drop q,(CZ q T).symm,ZA Q,ba⟩⟩
 obtain rfl:q=A:=Z
 go_wp2
 go_ret3;have c4:T.take q=T:=AK (by have:=ZA a2;omega);rw[c4] at Q;refine .inr ⟨x,T,J,S',(ZA af).symm,by rw[<- ZA ah];exact ZA ai,a3,a4,a5,.inl ⟨?_,ZA Q⟩⟩;rw[<- ZA ah,<- ZA a2];rfl
end
def muW (W:PW):Nat:=6*max (QT W) 1+(if W.items=[] then 6 else W.items.length)
def XBI (W:PW):Prop:=W.blocks.length=W.items.length
theorem Cap.at {j:Nat} (h:Cap D us W k j) (s:Nat) (u:List (Nat×Nat)) (a:u=VE us s 1) (l:s<8) (b:(us.getD s (0,0)).1=0):Cap D u W 100 j:=by
 subst a;have d:=h.ul
 have f:W.pos.seg≠s:=fun e=>by
  have:=h.opn;rw[e,b] at this;omega
 have g:=h.any;obtain⟨c,t,m,n,o⟩:=g.cs;refine⟨h.ok,uq d,h.seg,h.off,?_,⟨11,7,Z,?_,Z⟩,h.acts,h.lsn⟩
 . rw[VF _ _ _ _ Z,AF f];exact h.opn
 have:QT W<=23:=by
  unfold QT
  split
  . exact h.off
  rename_i i;exact h.ok.fit i
 omega
theorem Added.mu {B:Nat} {j:Nat} {i:PItem} (C:Added B D us lv W i bs D' us' lv' W' a) (h:Cap D us W k j) (q:i.loaded=true) (E:XO us W 1) (l:XBI W) :
 XBI W'/\((YB us'=YB us/\muW W'=muW W+7)\/(YB us'+1=YB us/\133<=muW W/\muW W'=19)):=by
 obtain⟨b,r,rfl,-⟩:=C;have F:JM i=1:=by unfold JM;rw[AJ q]
 rw[F] at r;unfold XBI at l;have P:=h.ok.few
 have n:∀ b:PW,muW ⟨b.pos,b.items++[i],b.blocks++[bs]⟩=6*max (YC b.pos.off (b.blocks.length+1)) 1+(b.items.length+1):=fun b=>by
  unfold muW;rw[Qn,AF sq];simp
 rw[AJ q];rcases r with⟨e,rfl,rfl,rfl,rfl⟩ | ⟨m,e,o,rfl⟩ | ⟨m,e,rfl,Q,p,c,o,G⟩
 . refine⟨by unfold XBI;simp[l],.inl ⟨rfl,?_⟩⟩
   rw[n,l];unfold muW QT;by_cases d:b.items=[]
   . rw[AJ d,AJ d,d]
     unfold YC;simp only[Ai];omega
   rw[AF d,AF d,l]
   unfold YC;omega
 . obtain⟨H,s,t,I,u,v,J,f,g,K,L⟩:=h.emitted o
   refine⟨by unfold XBI;simp[f,g],.inl ⟨u,?_⟩⟩
   have M:(if W.items=[] then 6 else W.items.length)=6:=by
    split
    . rfl
    rename_i d
    unfold KO at m e;unfold QT at e;rw[AF d] at e;unfold YC at m e;omega
   rw[n,f,g];unfold muW;rw[M];unfold YC;simp only[Ai];omega
 have R:=E m e
 obtain⟨N,w⟩:=VL us Z;have S:=h.ul;have O:=h.at (XC us) _ rfl Z w;obtain⟨H,s,t,I,u,v,J,f,g,K,L⟩:=O.emitted o;obtain⟨T,U,sum,V,X,Y,rfl,rfl,rfl⟩:=G;have a0:22<=QT W:=by unfold KO YC at e;omega
 have y:c.pos.seg<p.length:=by rw[s,t];exact h.seg
 have z:=KI us (XC us) 1 N;have A:=KI (KG p c.pos.seg c.pos.lsn) c.pos.seg 2 (uq y);have f3:=YT p c.pos.seg c.pos.lsn y;rw[XG,v] at A;rw[w] at z;simp only[Bo,AF (show ¬ (1:Nat)=0 from Z),AF (show ¬ (2:Nat)=0 from Z)] at z A;refine⟨by unfold XBI;simp[f,g],.inr ⟨Z,?_,?_⟩⟩
 . unfold muW
   split
   . omega
   rename_i d
   have:0<W.items.length:=List.length_pos_iff.2 d;omega
 have:=n { c with pos:=⟨XC us,1,c.pos.lsn+1,sum,c.pos.mount⟩ }
 simp only at this ⊢;rw[this,f,g];rfl
theorem Added.sealed {B:Nat} {j:Nat} {i:PItem} (l:Added B D us lv W i bs D' us' lv' W' a) (h:Cap D us W k j) (m:XO us W (JM i)) (v:Nat) (b:stOf us v=2):stOf us' v=2:=by
 obtain⟨A,n,rfl,-⟩:=l;rcases n with⟨d,rfl,rfl,rfl,rfl⟩ | ⟨f,d,c,rfl⟩ | ⟨f,d,rfl,C,o,p,c,q⟩
 . exact b
 . rw[c.stOf];exact b
 have E:=m f d
 obtain⟨r,g⟩:=VL us Z;have F:=h.ul;have s:=h.at (XC us) _ rfl Z g;obtain⟨G,t,u,H,I,J,K,L,M,N,O⟩:=s.emitted c;obtain⟨P,Q,R,S,T,U,rfl,rfl,rfl⟩:=q;have w:p.pos.seg<o.length:=by rw[t,u];exact h.seg
 have y:=c.stOf v
 have z:v≠XC us:=fun e=>by
  unfold stOf at b;rw[e,g] at b;omega
 unfold stOf at *;rw[VF _ _ _ _ (uq w),XG]
 split
 . rfl
 rw[y,VF _ _ _ _ r,AF z];exact b
theorem XAt {B:Nat} {I:PImage} (h:b<I.bl.length) (j:I.bl.length=I.ol.length) (g:KL I b old) (s:Nat) :
 ZN B (ZP I b old a) s+(if QJ B s (old:Nat) then 1 else 0)=ZN B I s+(if QJ B s (a:Nat) then 1 else 0):=by
 unfold ZN;by_cases c:I.bl.getD b 0=(old:Nat)
 . have d:ZP I b old a={ I with bl:=I.bl.set b a,bd:=QH I.bl I.bd b a }:=by unfold ZP;rw[AJ c]
   rw[d];simp only;have e:=ZS (p:=QJ B s) (l:=I.bl) (i:=b) (a:=(a:Nat)) Z;rw[KF Z] at c;rw[c] at e;omega
 have f:I.ol.getD b 0=(old:Nat):=g.resolve_left c
 have d:ZP I b old a={ I with ol:=I.ol.set b a,od:=QH I.ol I.od b a }:=by unfold ZP;rw[AF c]
 rw[d];simp only;have e:=ZS (p:=QJ B s) (l:=I.ol) (i:=b) (a:=(a:Nat)) Z;rw[KF Z] at f;rw[f] at e;omega
theorem ZAe {I:PImage} (h:Dist I) (o:0<old) (i:b<I.bl.length) (j:I.bl.length=I.ol.length) (p:KL I b old) {x:Nat} (d:KL (ZP I b old a) c x):x=a\/(KL I c x/\(c=b->x≠old)):=by
 obtain⟨k,l⟩:=Xp I b old a i j;rcases d with d | d
 . rw[k] at d
   by_cases e:c=b/\I.bl.getD b 0=(old:Nat)
   . rw[AJ e] at d;exact .inl Z
   rw[AF e] at d
   refine .inr ⟨.inl d,fun f g=>e ⟨f,?_⟩⟩;rw[<- f,<- g];exact d
 rw[l] at d
 by_cases e:c=b/\I.bl.getD b 0≠(old:Nat)
 . rw[AJ e] at d;exact .inl Z
 rw[AF e] at d
 refine .inr ⟨.inr d,fun f g=>?_⟩;subst f;have m:I.bl.getD c 0=(old:Nat):=Classical.byContradiction fun n=>e ⟨rfl,n⟩;exact h.bo c c Z (by rw[m,d,g])
theorem ZBS {B s:Nat}:QJ B s ((a:Nat):Int)=true↔0<a/\(a-(6+4*pgs B)) / 24=s:=by
 unfold QJ;simp
theorem Moved.space {B:Nat} {S:PS} {j:Nat} (w:Well B S j) (h:Moved B S b old S') (y:RoomOk S.us S.W 1 true) (z:j<=90000) (f:0<old) (g:KL S.I b old) (I:v<8) (A:stOf S.us v=2)
 (q:JC B v<=old/\old<JC B v+24) (C:XBI S.W) :
 stOf S'.us v=2/\ZN B S'.I v+1=ZN B S.I v/\(∀ c x:Nat,0<x->JC B v<=x->x<JC B v+24->KL S'.I c x->KL S.I c x/\(c=b->x≠old)) /\
  XBI S'.W/\((YB S'.us=YB S.us/\muW S'.W=muW S.W+7)\/(YB S'.us+1=YB S.us/\133<=muW S.W/\muW S'.W=19)):=by
 have i:=w.frees y;have w':=(w.moved h i z f g).1;obtain⟨J,K,L⟩:=w.good.ref f g;have M:=w.good.bl;have N:=w.good.ol;obtain⟨D',us',O,W',a,k,rfl⟩:=h;have l:=k.sealed w.good.cap i v A;obtain⟨D,E⟩:=k.mu w.good.cap rfl i C;have r:=w'.good.cap.ok;have m:=w'.ext.segs;simp only at r m;have P:us'.length=8:=m.1
 have n:v≠W'.pos.seg:=fun e=>by
  have:=(m.2.2 v Z).2 e;unfold stOf at l;rw[XI Z] at l;omega
 have s:¬ (JC B v<=a/\a<JC B v+24)/\0<a/\(a-(6+4*pgs B)) / 24≠v:=by
  obtain⟨F,Q,rfl,o⟩:=k;have hi:PItem.loaded ⟨4,b,0,old⟩=true:=rfl;rw[AJ hi] at o;have t:=r.fit sq;simp only[hi,Bo,AE,Af] at t;simp only at n;have e:(a-(6+4*pgs B)) / 24=F.pos.seg:=Vi Z (by unfold YC at t o;omega);refine⟨fun d=>n ?_,by unfold YC at o;omega,fun d=>n Z⟩;rw[<- e];exact(Vi d.1 d.2).symm
 refine⟨l,?_,fun c x R G H p=>?_,D,E⟩
 . have u:=XAt (B:=B) (a:=a) Z Z g v
   rw[AJ (ZBS.2 ⟨f,Vi q.1 q.2⟩),AF (fun d=>s.2.2 (ZBS.1 d).2)] at u;exact u
 rcases ZAe w.dist f Z Z g p with rfl | p
 . exact absurd ⟨G,H⟩ s.1
 exact p
theorem Moves.space {B:Nat} {S:PS} {T:List (Nat×Nat)} {j:Nat} (h:Moves B S T S') (w:Well B S j) (t:j+T.length<=90000) (u:v<8) (z:stOf S.us v=2) (hi:S.W.items=[]):∀ d,KBl S.I (T++d) ->
 (∀ x∈T++d,JC B v<=x.2/\x.2<JC B v+24) ->
 stOf S'.us v=2/\ZN B S'.I v+T.length=ZN B S.I v/\(∀ c x:Nat,0<x->JC B v<=x->x<JC B v+24->KL S'.I c x->KL S.I c x/\(c,x)∉T) /\
  XBI S'.W/\(T≠[]->S'.W.items≠[])/\((YB S'.us=YB S.us/\muW S'.W=muW S.W+7*T.length)\/(∃ b,b<T.length/\YB S'.us+1=YB S.us/\133<=muW S.W+7*b/\muW S'.W=19+7*(T.length-b-1))\/17<=T.length):=by
 induction h with
 | nil=>
   intro d _ _;have e:=w.good.cap.ok.many;rw[hi] at e
   exact⟨z,rfl,fun c x _ _ _ h=>⟨h,sq⟩,by unfold XBI;rw[hi];exact e,fun h=>absurd rfl h,.inl ⟨rfl,rfl⟩⟩
 | @snoc l x S1 S2 h hr k ih=>
   intro d e g;rw[AE,Af] at t ⊢;rw[BN] at e g;obtain⟨A,R,C,D,U,E⟩:=ih Z ([x]++d) e g;obtain⟨w1,b1,V,W,F,X⟩:=h.well w Z ([x]++d) e;obtain⟨G,H⟩:=F x sq;obtain⟨I,Y,J,K,n⟩:=k.space w1 hr Z G H u A (g x sq) D;refine⟨I,Z,fun c y o p q L=>?_,K,fun _=>?_,?_⟩
   . obtain⟨M,N⟩:=J c y o p q L
     obtain⟨O,P⟩:=C c y o p q M;refine⟨O,fun f=>?_⟩;rcases AD.1 f with f | f
     . exact P f
     simp only[Ag] at f
     subst f;exact N rfl rfl
   . obtain⟨D',us',a0,W',a,⟨a1,_,rfl,_⟩,rfl⟩:=k
     simp
   rcases E with⟨r,s⟩ | ⟨b,hb,r,s,f3⟩ | r
   . rcases n with⟨i,m⟩ | ⟨i,m,Q⟩
     . exact .inl ⟨Z,Z⟩
     exact .inr (.inl ⟨l.length,Z,Z,Z,Z⟩)
   . rcases n with⟨i,m⟩ | ⟨i,m,Q⟩
     . exact .inr (.inl ⟨b,Z,Z,s,Z⟩)
     exact .inr (.inr Z)
   exact .inr (.inr Z)
theorem ZAh (us:List (Nat×Nat)) (lv:List Nat) (d:us.length=8) (k:Nat) (e:k<=8):YB (VT us lv k)=YB us+(relO us lv k).length:=by
 induction k with
 | zero=>rfl
 | succ k b=>
   have b:=b Z;rw[QAO,AE];simp only[VT];by_cases hi:ZQ us lv k=true
   . rw[AJ hi,AJ hi]
     have a:=KI (VT us lv k) k 0 (by rw[KR];omega);rw[JAT us lv k k (AG _)] at a
     have c:(us.getD k (0,0)).1=2:=by
      unfold ZQ at hi;rw[Al] at hi;exact CK.1 hi.1
     rw[c] at a;simp only[Bo,AF (show ¬ (2:Nat)=0 from Z)] at a;simp only[Af];omega
   rw[AF hi,AF hi]
   simp only[Ai];omega
theorem QBD (us:List (Nat×Nat)) (lv:List Nat) (c:us.length=8) (s:Nat) (a:s<8):ZQ (VT us lv 8) lv s=false:=by
 unfold ZQ;rw[Zh us lv 8 s Z];by_cases h:s<8/\ZQ us lv s=true
 . rw[AJ h];rfl
 rw[AF h]
 have:¬ ZQ us lv s=true:=fun b=>h ⟨a,b⟩;unfold ZQ at this;simpa using this
theorem Checked.space {B:Nat} {S:PS} {j:Nat} (h:Checked B S S') (w:Well B S j) :
 YB S'.us=YB S.us+(relO S.us S.lv 8).length/\(∀ s<8,ZQ S'.us S'.lv s=false)/\S'.W.items=[]/\max S'.W.pos.off 1=max (QT S.W) 1/\S'.W.pos.off<=23:=by
 obtain⟨k,a,l,D',m,n,b,o,_,_,rfl⟩:=h;obtain⟨p,c,q,d,e,r,f,g,t,u,v⟩:=w.good.cap.emitted b;refine⟨?_,fun s i=>QBD a S.lv c s i,g,f,d⟩;rw[<- b.relO S.lv,<- e];exact ZAh a S.lv c 8 (AG _)
def YBY (lv:List Nat) (k:Nat):Nat:=((List.range k).map (fun s=>lv.getD s 0)).sum
theorem QAx (lv:List Nat) (k:Nat):YBY lv (k+1)=YBY lv k+lv.getD k 0:=by
 unfold YBY;rw[Bq,Bf,Db];simp
theorem YBA (B:Nat) (l:List Int) (k:Nat):((List.range k).map (fun s=>l.countP (QJ B s))).sum<=l.length:=by
 induction l with
 | nil=>
   simp only[DI,Ai,Nat.le_zero_eq]
   induction k with
   | zero=>rfl
   | succ k ih=>rw[Bq,Bf,Db,ih];rfl
 | cons a l ih=>
   have c:((List.range k).map (fun s=>(a :: l).countP (QJ B s))).sum=((List.range k).map (fun s=>l.countP (QJ B s))).sum+((List.range k).map (fun s=>if QJ B s a then 1 else 0)).sum:=by
    clear ih
    induction k with
    | zero=>rfl
    | succ k ih=>
      simp only[Bq,Bf,Db,CN,Cx,List.sum_cons,List.sum_nil];rw[ih,Be];omega
   have d:∀ k,((List.range k).map (fun s=>if QJ B s a then 1 else 0)).sum<=1/\(k<=(a.toNat-(6+4*pgs B)) / 24->((List.range k).map (fun s=>if QJ B s a then 1 else 0)).sum=0):=by
    intro k
    induction k with
    | zero=>exact⟨sq,fun _=>rfl⟩
    | succ k ih=>
      simp only[Bq,Bf,Db,CN,Cx,List.sum_cons,List.sum_nil];by_cases b:QJ B k a=true
      . have:=(Xv b).2
        have e:=ih.2 Z;rw[AJ b];exact⟨Z,fun h=>Z⟩
      rw[AF b]
      exact⟨by have:=ih.1;omega,fun h=>by have:=ih.2 Z;omega⟩
   have:=(d k).1;rw[c,Ao];omega
theorem VBL {B:Nat} {S:PS} {j:Nat} (w:Well B S j):YBY S.lv 8<=2*B:=by
 have b:YBY S.lv 8=((List.range 8).map (fun s=>ZN B S.I s)).sum:=by
  unfold YBY
  congr 1
  refine Cy (fun s a=>?_);exact w.ext.liv.live s (D8.1 a)
 have c:((List.range 8).map (fun s=>ZN B S.I s)).sum=((List.range 8).map (fun s=>S.I.bl.countP (QJ B s))).sum+((List.range 8).map (fun s=>S.I.ol.countP (QJ B s))).sum:=by
  unfold ZN;generalize 8=k
  induction k with
  | zero=>rfl
  | succ k ih=>
    simp only[Bq,Bf,Db,CN,Cx,List.sum_cons,List.sum_nil];rw[ih];omega
 have d:=YBA B S.I.bl 8;have e:=YBA B S.I.ol 8;have:=w.good.bl;have:=w.good.ol;omega
theorem JBm (us:List (Nat×Nat)) (lv:List Nat) (k:Nat) (h:∀ s<k,(us.getD s (0,0)).1=2->12<=lv.getD s 0):12*(JQ us k).length<=YBY lv k:=by
 induction k with
 | zero=>exact AG _
 | succ k b=>
   have b:=b (fun s c=>h s Z);rw[Ye,QAx];by_cases a:(us.getD k (0,0)).1=2
   . have:=h k Z a
     rw[AJ a,AE];simp only[Af];omega
   rw[AF a];omega
theorem QAK {p:Nat} (h:VW us p):YB us+(JQ us 8).length+1>=8:=by
 obtain⟨j,b,c⟩:=h
 have d:∀ k≤8,(us.take k).countP (fun u=>u.1 == 0)+(JQ us k).length+(if p<k then 1 else 0)>=k:=by
  intro k
  induction k with
  | zero=>intro _;simp
  | succ k a=>
    intro l;have a:=a Z;have e:us.take (k+1)=us.take k++[us[k]' Z]:=by rw[AO]
    rw[e,Ce,Ye,XI Z,Be,DI];have m:=(b us[k] (AN _)).1;have f:=c k Z;generalize us[k].1=q at *;have g:q=0\/q=1\/q=2:=Z
    rcases g with rfl | rfl | rfl
    . have i:(if p<k then 1 else 0)<=(if p<k+1 then 1 else 0):=by split <;> split <;> omega
      simp only[beq_self_eq_true,Bo,AF (show ¬ (0:Nat)=2 from Z)];omega
    . have:=f.1 rfl
      subst this;rw[AF (show ¬ k<k from Z)] at a;simp only[AF (show ¬ (1:Nat)=2 from Z),AJ (show k<k+1 from Z)];omega
    have i:(if p<k then 1 else 0)<=(if p<k+1 then 1 else 0):=by split <;> split <;> omega
    simp only[Bo,AE,Af];omega
 have:=d 8 (AG _);rw[AK Z] at this;unfold YB;have:(if p<8 then 1 else 0)<=1:=by split <;> omega
 omega
theorem VAh {B:Nat} {S:PS} {j:Nat} (w:Well B S j) (e:B<=20) (d:YB S.us<=2) (hi:∀ s<8,ZQ S.us S.lv s=false):Xj S=true:=by
 unfold Xj;rw[AH d,Bool.and_true]
 cases hp:Ve S.us S.lv S.W.pos.lsn with
 | some x=>rfl
 | none=>
   exfalso
   have f:=JBm S.us S.lv 8 (fun s c b=>by
    rcases YBH hp s c b with a | a
    . have:=hi s c
      unfold ZQ at this;rw[b,a] at this;cases this
    exact a)
   have b:=VBL w;have a:=QAK w.ext.segs;omega
structure RndSp (S:PS) (n f:Nat) (S':PS):Prop where
 idle:∀ s<8,ZQ S'.us S'.lv s=false
 its:S'.W.items=[]
 two:2<=YB S'.us
 free:n<=f
 more:YB S.us=2->2<YB S'.us->1<=f
 off:YB S'.us<=2->max S'.W.pos.off 1+7*n<=23
theorem QBl (h:W.items=[]):QT W=W.pos.off:=by unfold QT;rw[AJ h]
theorem ZBn (h:W.items=[]):muW W=6*max W.pos.off 1+6:=by unfold muW;rw[QBl h,AJ h]
theorem Rnd.space {B:Nat} {S:PS} {j:Nat} (h:Rnd B S n f S') (w:Well B S j) (hj:j+(1+24*n)<=90000) (h2:2<=YB S.us):RndSp S n f S':=by
 induction h with
 | first h=>
   obtain⟨G,k,m,r,H⟩:=h.space w
   exact⟨k,m,Z,Z,fun _ _=>Z,fun _=>Z⟩
 | @more n f S1 S2 S3 x T h hw hp hT hm hc d=>
   have d:=d Z;obtain⟨w1,b1,o1,t1,f1⟩:=h.well w Z;have g:=hT.len;obtain⟨p,b2,o2,t2,-⟩:=hm.well w1 Z [] (by rw[Bg];exact hT.ok);obtain⟨o,I,p3,p4,p5⟩:=Zw hp;obtain⟨t,u,J,m4,K,L⟩:=hm.space w1 Z o I d.its [] (by rw[Bg];exact hT.ok) (by rw[Bg];exact fun y M=>by have:=hT.here y M;omega);have a1:=w1.ext.liv.live x.2.2 o
   have N:ZN B S2.I x.2.2=0:=by
    rcases BQ (ZN B S2.I x.2.2) with q | q
    . exact q
    exfalso
    have v:∀ l:List Int,(∀ c,l.getD c 0=S2.I.bl.getD c 0)\/(∀ c,l.getD c 0=S2.I.ol.getD c 0)->l.countP (QJ B x.2.2)=0:=fun l g=>by
     rw[DJ];intro a O P;obtain⟨i,hi⟩:=List.getElem_of_mem O;obtain⟨hi,rfl⟩:=hi;obtain⟨a2,Q⟩:=Xv P;have z:l.getD i 0=((l[i].toNat:Nat):Int):=by rw[KF hi];omega
     have A:KL S2.I i l[i].toNat:=by
      rcases g with g | g
      . exact .inl ((g i).symm.trans z)
      exact .inr ((g i).symm.trans z)
     have R:=(p.good.ref Z A).2.2;obtain⟨C,D⟩:=QBk (s:=x.2.2) R.lo Q;obtain⟨U,V⟩:=J i l[i].toNat Z C D A;exact V (hT.all i _ Z U C D)
    have k1:=v S2.I.bl (.inl fun _=>rfl);have k2:=v S2.I.ol (.inr fun _=>rfl);unfold ZN at q;omega
   have W:=p.ext.liv.live x.2.2 o;have a3:T.length<=11:=Z
   have X:T≠[]:=fun e=>by rw[e] at u;simp at u;omega
   have Y:ZQ S2.us S2.lv x.2.2=true:=by
    unfold ZQ;rw[W,N];unfold stOf at t;rw[t];rfl
   have hrel:1<=(relO S2.us S2.lv 8).length:=by
    have:x.2.2∈relO S2.us S2.lv 8:=by unfold relO;rw[Dr,D8];exact⟨o,Y⟩
    exact List.length_pos_of_mem this
   obtain⟨G,k,m,r,H⟩:=hc.space p
   have a0:YB S1.us<=2:=by
    unfold Xj at hw;rw[Al] at hw;exact of_decide_eq_true hw.2
   have a4:=d.two;have a5:=d.off a0;have a6:=ZBn d.its;have a7:=d.free;have E:=K X;have a8:muW S2.W=6*max (QT S2.W) 1+S2.W.items.length:=by unfold muW;rw[AF E]
   have a9:0<S2.W.items.length:=List.length_pos_iff.2 E;rcases L with⟨F,g2⟩ | ⟨b,hb,F,g2,g3⟩ | F
   . exact⟨k,m,Z,Z,fun _ _=>Z,fun h=>Z⟩
   . refine⟨k,m,Z,Z,fun _ _=>Z,fun h=>?_⟩
     rw[r];omega
   omega
theorem RoundEnd.space {B:Nat} {S:PS} {j:Nat} (h:RoundEnd B S f S') (w:Well B S j) (F:j<=88000) (o:B<=20) (d:2<=YB S.us):2<YB S'.us/\(YB S.us=2->1<=f):=by
 obtain⟨n,G,⟨h,a⟩ | ⟨H,I,x,T,J,e,h,g,p,c,rfl,i,q⟩⟩:=h
 . obtain⟨w1,b1,s,t,u⟩:=h.well w Z
   have r:=h.space w Z d
   have k:2<YB S'.us:=by
    rcases BG 2 (YB S'.us) with h | h
    . exact h
    exfalso
    have K:=r.off h;have g:=VAh w1 o h r.idle;rcases a with rfl | a
    . omega
    rw[g] at a;cases a
   exact⟨k,fun h=>r.more h k⟩
 exfalso
 obtain⟨w1,b1,s,t,u⟩:=h.well w Z;have r:=h.space w Z d;have v:=c.len;rw[AE] at v;obtain⟨l,z,L,M,N⟩:=Zw p;obtain⟨O,P,Q,R,U,A⟩:=i.space w1 Z l z r.its e c.ok (fun y C=>by have:=c.here y C;omega);have V:=w1.ext.liv.live x.2.2 l;have W:=r.two
 have D:0<YB S'.us:=by
  rcases A with⟨m,E⟩ | ⟨b,X,m,E,Y⟩ | m
  . omega
  . omega
  omega
 have a0:S'.us.length=8:=by
  have:=(i.well w1 Z e c.ok).1.good.cap.ul;exact this
 obtain⟨q1,_⟩:=VL S'.us D;rcases q.2.2 with⟨h,_⟩ | h
 . cases h
 omega
structure SLike (B:Nat) (S:PS) (I:PIdl):Prop where
 base:YE B S=I.base
 over:XF B S=I.over
 ep:S.st.epoch=I.ep
 seq:S.st.seq=I.seq
 done:S.st.done=I.done
def YAJ (W:PW):Nat:=(max W.pos.off 1-1)+W.blocks.length
theorem Added.fill {B:Nat} {j:Nat} {i:PItem} (A:Added B D us lv W i bs D' us' lv' W' a) (h:Cap D us W k j) (C:RoomOk us W (JM i) false) (E:2<=YB us) :
 2<=YB us'/\YAJ W+JM i+22*YB us'<=YAJ W'+22*YB us/\W'.items≠[]/\YB us'<=YB us:=by
 obtain⟨c,F,rfl,-⟩:=A;have Q:=h.ok.few;have R:=h.off
 have e:∀ c:PW,YAJ ⟨c.pos,c.items++[i],if i.loaded then c.blocks++[bs] else c.blocks⟩=YAJ c+JM i:=fun c=>by
  unfold YAJ JM
  split <;> simp <;> omega
 rcases F with⟨f,rfl,rfl,rfl,rfl⟩ | ⟨m,f,g,rfl⟩ | ⟨m,f,rfl,S,l,b,g,G⟩
 . rw[e]
   exact⟨E,Z,sq,AG _⟩
 . obtain⟨H,n,o,I,J,p,q,K,r,L,M⟩:=h.emitted g
   rw[e];refine⟨Z,?_,sq,Z⟩
   have:YAJ W<=YAJ c:=by
    unfold YAJ;rw[r,q];unfold QT
    split
    . rename_i d
      have:=h.ok.many;rw[d] at this;have N:W.blocks.length=0:=this;simp only[Ai];omega
    unfold YC
    simp only[Ai];omega
   omega
 obtain⟨O,s,t⟩:=C m f
 have t:=t rfl;have T:=h.ul;have P:=h.at (XC us) _ rfl O s;obtain⟨H,n,o,I,J,p,q,K,r,L,M⟩:=P.emitted g;obtain⟨U,V,sum,X,Y,t3,rfl,rfl,rfl⟩:=G;have u:b.pos.seg<l.length:=by rw[n,o];exact h.seg
 have v:=KI us (XC us) 1 Z;have w:=KI (KG l b.pos.seg b.pos.lsn) b.pos.seg 2 (uq u);have f3:=YT l b.pos.seg b.pos.lsn u;rw[XG,p] at w;rw[s] at v;simp only[Bo,AF (show ¬ (1:Nat)=0 from Z),AF (show ¬ (2:Nat)=0 from Z)] at v w;have y:=e { b with pos:=⟨XC us,1,b.pos.lsn+1,sum,b.pos.mount⟩ };simp only at y ⊢;rw[y]
 have h4:YAJ W<=22:=by
  have z:=h.ok.many;unfold YAJ;by_cases d:W.items=[]
  . rw[d] at z
    have N:W.blocks.length=0:=z;omega
  have:=h.ok.fit d
  unfold YC at this;omega
 refine⟨Z,Z,sq,Z⟩
theorem Emitted.fill {B:Nat} {j:Nat} (a:Emitted B D us W D' us' W') (h:Cap D us W k j) (b:W.items≠[]):YB us'=YB us/\YAJ W'=YAJ W+1:=by
 obtain⟨f,g,i,l,c,m,d,n,e,o,p⟩:=h.emitted a;refine⟨c,?_⟩;unfold YAJ;rw[e,d];unfold QT;rw[AF b];unfold YC;simp only[Ai];omega
theorem SLike.len {B j:Nat} {S:PS} {I:PIdl} (h:SLike B S I) (w:Well B S j):I.base.length=B/\I.over.length=B:=by
 constructor
 . rw[<- h.base];unfold YE;rw[CJ];exact w.good.bl
 rw[<- h.over];unfold XF;rw[CJ];exact w.good.ol
theorem SLike.step {B j:Nat} {S:PS} {I:PIdl} (h:SLike B S I) (w:Well B S j) (b:Does B S o S') (m:KS B o) (k:o.k≠2) (n:KT o.d) (d:RoomOk S.us S.W (Xg o) false) (v:j<=80000):Well B S' (j+2)/\SLike B S' (I.step o)/\S'.st=Ji S.st o:=by
 obtain⟨y,p⟩:=h.len w;obtain⟨b1,l,q,z,r⟩:=h;rcases b with⟨c,b⟩ | ⟨c,b⟩ | ⟨c,A,b⟩
 . rcases m with⟨_,C,D,s⟩ | ⟨t,_⟩ | ⟨t,_⟩
   . have e:RoomOk S.us S.W 1 false:=by unfold Xg at d;rwa [AJ c] at d
     obtain⟨w1,f,g,a⟩:=w.wrote b (w.frees e) Z Z s n;have i:S'.st=Ji S.st o:=by rw[a,Ji,AF Z]
     have hi:I.step o={ I with over:=I.over.set o.b.toNat (some o.d),seq:=I.seq+1 }:=by unfold PIdl.step;rw[AJ c]
     rw[hi];exact⟨w1.later Z,⟨f.trans b1,by rw[g,l],by rw[a];exact q,by rw[a];simp only;omega,by rw[a];exact r⟩,i⟩
   . omega
   omega
 . exact absurd c k
 have e:RoomOk S.us S.W 0 false:=by unfold Xg at d;rwa [AF Z] at d
 obtain⟨w1,f,g,a⟩:=w.marked b (w.frees e) Z Z;have u:o.e.toNat=S.st.epoch+1:=Z
 have i:S'.st=Ji S.st o:=by rw[a,Ji,AJ c,u]
 have hi:I.step o={ base:=VP I.base I.over,over:=List.replicate I.over.length none,ep:=I.ep+1,seq:=I.seq+1,done:=I.seq+1 }:=by unfold PIdl.step;rw[AF Z,AF k]
 rw[hi];exact⟨w1,⟨by rw[f,b1,l],by rw[g,p],by rw[a];simp only;omega,by rw[a];simp only;omega,by rw[a];simp only;omega⟩,i⟩
theorem JBB {B j:Nat} {S:PS} (w:Well B S j) (b:Does B S o S') (m:o.k≠2) (c:RoomOk S.us S.W (Xg o) false) (g:2<=YB S.us) (s:j<=80000):2<=YB S'.us/\YAJ S.W+1+22*YB S'.us<=YAJ S'.W+22*YB S.us:=by
 rcases b with⟨d,b⟩ | ⟨d,b⟩ | ⟨d,t,b⟩
 . have e:RoomOk S.us S.W 1 false:=by unfold Xg at c;rwa [AJ d] at c
   obtain⟨D',us',n,W',a,f,rfl⟩:=b;obtain⟨h,k,l,p⟩:=f.fill w.good.cap e g;exact⟨h,k⟩
 . exact absurd d m
 have e:RoomOk S.us S.W 0 false:=by unfold Xg at c;rwa [AF Z] at c
 obtain⟨u,v,n,y,a,z,A,C,D,od,f,q,rfl⟩:=b;have E:=w.good.epoch;obtain⟨h,k,l,p⟩:=f.fill w.good.cap e g;have r:=w.good.cap.addedG (i:=⟨3,0,0,o.e.toNat⟩) (w.frees e) (.inr (.inr (.inl ⟨rfl,rfl,rfl,by simp only;omega,by simp only;omega⟩))) (by simp[PItem.loaded]) f;obtain⟨F,G⟩:=q.fill r l;have H:JM ⟨3,0,0,o.e.toNat⟩=0:=rfl;simp only;exact⟨Z,Z⟩
structure SpS (B k:Nat) (S:PS) (I:PIdl):Prop where
 well:Well B S (2*k)
 like:SLike B S I
 view:S.st.view=1
 mode:S.st.mode=1
 gen:S.st.gen<=10
 seq:S.st.seq=k
 free:2<=YB S.us
 fill:k+22*YB S.us<=154+YAJ S.W
theorem SpS.few {B:Nat} {S:PS} {I:PIdl} (h:SpS B k S I):k<=138:=by
 have b:=h.free;have a:=h.fill;have c:=h.well.good.cap.off;have d:=h.well.good.cap.ok.few;have e:=h.well.good.cap.ok.many;have f:=YK S.W.items;unfold YAJ at a;omega
theorem SpS.step {B:Nat} {S:PS} {I:PIdl} (h:SpS B k S I) (b:Does B S o S') (e:KS B o) (c:o.k≠2) (f:KT o.d) (d:RoomOk S.us S.W (Xg o) false):SpS B (k+1) S' (I.step o)/\S'.st=Ji S.st o:=by
 have q:=h.few;have r:=h.fill;obtain⟨g,i,a⟩:=h.like.step h.well b e c f d Z;obtain⟨j,s⟩:=JBB h.well b c d h.free Z;obtain⟨l,m,n⟩:=ZAA S.st o;have p:S'.st.gen=S.st.gen:=by rw[a];unfold Ji;split <;> rfl
 exact⟨⟨g,i,by rw[a,m];exact h.view,by rw[a,l];exact h.mode,by rw[p];exact h.gen,by rw[a,n,h.seq],j,Z⟩,a⟩
theorem SpS.first {B:Nat} (a:Good B (PS.fresh B D) k 0) (h:VAV (198+4*pgs B) B D):SpS B 0 (PS.fresh B D) (PIdl.new B):=by
 have b:=ZD a.b1 a.b64;refine⟨JAd a h,⟨?_,?_,rfl,rfl,rfl⟩,rfl,rfl,by simp[PS.fresh],rfl,by simp[PS.fresh,YB],by simp[PS.fresh,YB,YAJ]⟩
 . unfold YE
   simp only[PS.fresh,PIdl.new,DU]
   congr 1
 unfold XF
 simp only[PS.fresh,PIdl.new,DU]
 congr 1
theorem SpS.round {B:Nat} {S:PS} {I:PIdl} (h:SpS B k S I) (c:B<=20) (b:RoundEnd B S f S') (s:YB S.us<=2):1<=f/\Well B S' (2*k+1600)/\SLike B S' I/\S'.st.view=1/\S'.st.mode=1/\S'.st.seq=k/\∀ m,RoomOk S'.us S'.W m false:=by
 have t:=h.few;have d:=h.free;obtain⟨b1,e,g,i,j⟩:=h.like;obtain⟨l,o⟩:=b.space h.well Z c d;obtain⟨w1,p,q,n,u,a⟩:=b.well h.well Z;refine⟨o Z,w1,⟨p.trans b1,q.trans e,by rw[a];exact g,by rw[a];exact i,by rw[a];exact j⟩,by rw[a];exact h.view,by rw[a];exact h.mode,by rw[a];exact h.seq,fun m _ _=>?_⟩;obtain⟨v,r⟩:=VL S'.us Z;have:=w1.good.cap.ul;exact⟨Z,r,fun _=>l⟩
theorem SpaceNo.two (h:SpaceNo us W m false) (b:us.length=8):YB us<=2:=by
 rcases h.2.2 with⟨_,h⟩ | h
 . exact h
 rcases BG 0 (YB us) with a | a
 . obtain⟨c,_⟩:=VL us a
   omega
 omega
structure SpOp (B:Nat) (ep k b c e n:Nat) (xs:List UInt8):Prop where
 may:OpMay k b c e n
 len:xs.length=n
 ok:b+max c 1<=B\/k=3
 for_:KS B ⟨k,b,c,e,xs⟩
 k2:k≠2
 mke:k=3->e=ep+1
 nk:KT xs
theorem SpOp.ki {B:Nat} (h:SpOp B ep k b c e n xs):(⟨k,b,c,e,xs⟩:POp).k≠2:=by
 have:=h.k2;show ((k:Nat):Int)≠2;omega
theorem SpOp.write {B:Nat} (a:b<B) (c:B<=64) (x:Int):SpOp B ep 1 b 0 0 64 (XY x):=
 ⟨.inl ⟨rfl,Z,rfl,rfl,rfl⟩,sq,.inl Z,.inl ⟨rfl,by simp only;omega,by simp only;omega,sq⟩,Z,fun h=>Z,VBN x⟩
theorem SpOp.mark {B:Nat} (a:ep<=1000000):SpOp B ep 3 0 0 (ep+1) 0 []:=
 ⟨.inr (.inr ⟨rfl,rfl,rfl,Z,Z,rfl⟩),rfl,.inr rfl,.inr (.inr ⟨rfl,by simp only;omega,by simp only;omega⟩),Z,fun _=>rfl,notKR_nil⟩
theorem KAZ (n m:Nat) (f:1<=m) (q:PSlot) (g:q.is=true):cyc n ((QD m).set (n % m) q) ((QD m).set (n % m) q).length=1:=by
 have d:((QD m).set (n % m) q).length=m:=sq
 have h:n % m<m:=Bk _ f
 have i:∀ k≤m,cyc n ((QD m).set (n % m) q) k=if k=0 then 0 else 1:=by
  intro k
  induction k with
  | zero=>intro _;rfl
  | succ k ih=>
    intro l;rw[QAY,ih Z,d,AF (show ¬ k+1=0 from Z),Jc (uq h)];by_cases c:k=0
    . subst c
      rw[AJ (show n % m=(n+0) % m from rfl),AJ g];rfl
    have j:¬ n % m=(n+k) % m:=fun e=>c (by have:=mod_one (N:=m) (s:=n) (a:=n) (b:=n+k) Z Z e;omega)
    rw[AF c,AF j,AF (by rw[KU];decide)]
 rw[d,i m (AG _),AF Z]
structure SSt (wA w:World) (B t r s d x i ib:Nat) (Fs Fx FI:List Nat) (R:RS) (I:PIdl):Prop where
 law:LawSt wA w B t r s d x Fs Fx R
 dev:IdlAt w ib i FI I
 ap:Apart (YJ r Fs Fx) FI
 tw:t∉FI
 ibg:wA.heap.size<=ib
namespace SSt
variable {wA w w':World} {B t r s d x i ib:Nat} {Fs Fx FI:List Nat} {R:RS} {I:PIdl}
theorem kO (h:SSt wA w B t r s d x i ib Fs Fx FI R I) (a:kz w w'):SSt wA w' B t r s d x i ib Fs Fx FI R I:=
 ⟨h.law.kO a,h.dev.keep a Apart.nil_right,h.ap,h.tw,h.ibg⟩
theorem took (h:SSt wA w B t r s d x i ib Fs Fx FI R I) {a:List Nat} {b:RS} (f:ReplicaIs w' wA.heap.size r s d x Fs' a B b) (c:Keep (YJ r Fs Fx) w w') (e:Grow w (YJ r Fs Fx) (YJ r Fs' a)):SSt wA w' B t r s d x i ib Fs' a FI b I:=
 ⟨h.law.turn f c e,h.dev.keep c h.ap.symm,h.ap.grow e (fun y g=>(h.dev.lt y g).2),h.tw,h.ibg⟩
theorem done (h:SSt wA w B t r s d x i ib Fs Fx FI R I) {a:List Nat} {I':PIdl} (hi:IdlAt w' ib i a I') (c:Keep FI w w') (b:∀ y∈a,y∈FI\/w.heap.size<=y):SSt wA w' B t r s d x i ib Fs Fx a R I':=by
 have g:=h.law.lt;exact⟨h.law.keepF c h.ap h.tw (fun y e=>AB h.ibg (h.dev.lt y e).1),hi,h.ap.grow_r b h.law.rep.lt,fun f=>(b _ f).elim h.tw Z,h.ibg⟩
theorem turned (h:SSt wA w B t r s d x i ib Fs Fx FI R I) (e:StoreAt w' wA.heap.size s d Fs' B S') (b:Keep Fs w w') (c:Grow w Fs Fs') (f:S'.st.mode=1) (g:S'.st.view=R.S.st.view):SSt wA w' B t r s d x i ib Fs' Fx FI ⟨S',R.next,R.sl⟩ I:=by
 refine h.took (h.law.rep.setSt e b c f g) (kq.trans b (fun y a=>.inl (by simp[YJ,a]))) (fun y a=>?_);simp only[YJ,AL,AD] at a ⊢;rcases a with a | a | a
 . exact .inl (.inl a)
 . exact(c y a).imp (fun h=>.inr (.inl h)) id
 exact .inl (.inr (.inr a))
theorem kept (h:SSt wA w B t r s d x i ib Fs Fx FI R I):kz wA w:=h.law.kept
theorem stands (h:SSt wA w B t r s d x i ib Fs Fx FI R I) {j:Nat} (b:Well B R.S j) (a:SLike B R.S I) :
 cr 50 #[pq s,pq i] w (.bool true):=
 ZAP h.law.rep.st b.good h.dev a.base a.over a.ep a.seq a.done
theorem does (h:SSt wA w B t r s d x i ib Fs Fx FI R I) {j:Nat} {v:PS} (l:Well B v j) (u:SLike B v I) (J:j<=90000) (C:OpMay k b c e m) (K:xs.length=m) (L:b+max c 1<=B\/k=3) (D:k=3->e=I.ep+1) (E:m<=cp) (F:Rd w A m (bys xs)) :
 Calls prog 47 #[pq i,.agg #[ii k,ii b,ii c,ii e,.slice A m cp]] w fun z w'=>z=.returned (.bool true)/\∃ o,SSt wA w' B t r s d x i ib Fs Fx o R (I.step ⟨k,b,c,e,xs⟩)/\Keep FI w w'/\∀ y∈o,y∈FI\/w.heap.size<=y:=by
 obtain⟨G,M⟩:=u.len l;have f:=l.good.seq;have g:=l.good.epoch;have a:=u.ep;have p:=u.seq;have n:=l.good.b1;have q:=l.good.b64
 have H:Vx I k b c e m:=by
  unfold Vx;rw[G];rcases C with⟨f,g,a,p,n⟩ | ⟨f,g,a,p,n,q⟩ | ⟨f,g,a,p,n,q⟩
  . exact .inl ⟨f,Z,a,p,n⟩
  . exact .inr (.inl ⟨f,a,Z,n,q⟩)
  have:=D Z
  exact .inr (.inr ⟨f,g,a,Z,q⟩)
 refine(KAm h.dev Z Z Z Z cp xs F E H).mono ?_;rintro z w' ⟨rfl,o,f,g,a⟩;exact⟨rfl,o,h.done f g a,g,a⟩
theorem take {S:PS} {g:Nat} (h:SSt wA w B t r s d x i ib Fs Fx FI ⟨S,k+1,QD g⟩ I) (j:SpS B k S I) (D:1<=g) {f:Nat} (a:SpOp B I.ep f b c e n xs) (E:Rd w A (25+n) (bys (YG f 1 (k+1) b c e 0 xs))) :
 Calls prog 45 #[pq r,.slice A (25+n) cp] w fun o w'=>Keep (YJ r Fs Fx) w w' /\
  ((∃ u v Fs' l S',o=.returned (.tuple #[.slice u 25 v,zz])/\SSt wA w' B t r s d x i ib Fs' l FI ⟨S',k+1+1,QD g⟩ I/\SpS B (k+1) S' (I.step ⟨f,b,c,e,xs⟩)) \/
  (o=.returned (.tuple #[zn,ii 6])/\∃ l q,SSt wA w' B t r s d x i ib Fs l FI ⟨S,k+1,(QD g).set ((k+1) % g) q⟩ I/\OneIs B ⟨S,k+1,(QD g).set ((k+1) % g) q⟩ g q/\q.o=⟨f,b,c,e,xs⟩/\SpaceNo S.us S.W (Xg ⟨f,b,c,e,xs⟩) false/\Grow w (YJ r Fs Fx) (YJ r Fs l))):=by
 have M:=j.few;have N:((1:Nat):Int)=(S.st.view:Nat):=by rw[j.view]
 have F:f=3->e=S.st.epoch+1:=fun m=>by rw[a.mke m,j.like.ep]
 rcases j.well.room (Xg ⟨f,b,c,e,xs⟩) false with y | G
 . refine(XAh w wA.heap.size r s d x Fs Fx B S (k+1) g h.law.rep h.kept.size f b c e n xs A cp (by rw[j.view];exact E) a.may a.len a.ok Z D a.for_ a.k2 F 100 (2*k) j.well.good Z y (fun S' J=>?_)).mono ?_
   . obtain⟨K,L⟩:=j.step J a.for_ (show ((f:Nat):Int)≠2 by have:=a.k2;omega) a.nk y
     exact⟨L,K.well.good⟩
   rintro o w' ⟨Fs',l,S',u,v,rfl,z,C,m,p⟩
   exact⟨m,.inl ⟨u,v,Fs',l,S',rfl,h.took z m p,(j.step C a.for_ (show ((f:Nat):Int)≠2 by have:=a.k2;omega) a.nk y).1⟩⟩
 refine(KAe w wA.heap.size r s d x Fs Fx B S (k+1) g h.law.rep h.kept.size f b c e n xs A cp (by rw[j.view];exact E) a.may a.len a.ok Z D a.for_ a.k2 F 100 (2*k) j.well.good Z G).mono ?_
 rintro o w' ⟨rfl,l,q,z,C,m,p,H⟩;exact⟨p,.inr ⟨rfl,l,q,h.took z p H,C,m,G,H⟩⟩
end SSt
theorem KAN {w:World} {base s d:Nat} {F:List Nat} {B:Nat} {S:PS} (h:StoreAt w base s d F B S) {j:Nat} (wl:Well B S j) (hj:j<=86000) (bj:S.st.gen<=90000) (O:1<=S.st.view/\S.st.view<=2147483647) (P:S.st.mode=1\/S.st.mode=2) :
 Calls prog 24 #[pq s] w fun e w'=>∃ (f:Nat) (l:List Nat) (S':PS),e=.returned (.tuple #[f,zz])/\StoreAt w' base s d l B S'/\RoundEnd B S f S'/\Keep F w w'/\Grow w F l:=by
 have a2:cq 89 #[pq s] w (.bool false):=by
  obtain⟨g,t,p,m,Fd,Ft,Fw,ao,ap,ar,h,bk⟩:=h;exact offC_is w base s d g t p m Fd Ft Fw ao ap ar B S h
 have r:=JAK h wl Z Z O P;have J:=Qv S.us S.lv 8;have au:Hid (Well B S j):=wl;have a3:=h.lt;have bl:=ZB a3;have av:=ZB O;have aw:=ZB P;clear wl h a3 O P;go_enter func24,ntmps24
 go_wp2_with (first
  | (go_at_call 89;refine a2.mono ?_;clear a2;rintro e w' ⟨rfl,rfl⟩)
  | (go_at_call 21
     refine r.mono ?_;clear r;rintro e w1 ⟨u,ax,a4,rfl,K,h1,a5,a6,a7⟩;obtain⟨Q,R,rfl,T,U,_⟩:=XB K))
 go_loopw [2,3,4,5] (fun a b c i wr=>∃ (n o k:Nat) (a8:Option Addr) (L:Nat) (l:List Nat) (S':PS),n<=64/\k<=8/\a=.int .i64 (o:Nat)/\b=.int .i64 0/\c=.slice a8 k L/\i=.int .i64 (n:Nat)/\k<=L/\L<=9223372036854775807/\StoreAt wr base s d l B S'/\Hid (Rnd B S n (o+k) S')/\Keep F w wr/\Grow w F l) (fun _ _ _ i _=>64-(intOf i).toNat)
 case atStart=>exact⟨0,0,_,Q,R,ax,a4,Z,J,rfl,rfl,rfl,rfl,T,U,h1,by show Rnd B S 0 (0+_) a4;rw[BB];exact Rnd.first a5,a6,a7⟩
 clear K h1 a5 a6 a7 J T U;obtain⟨n,o,k,a8,L,l,S',hn,bm,rfl,rfl,rfl,rfl,T,U,v,E,y,z⟩:=hrel;obtain⟨w1,-,-,M,f1⟩:=(ZA E).well (show Well B S j from ZA au) Z;have bn:IntKind.i64.wrap (((o:Nat):Int)+(k:Nat))=((o+k:Nat):Int):=by rw[AI];omega
 have bo:S'.st.gen<=90100:=by rw[M];simp only;omega
 have a9:1<=S'.st.view/\S'.st.view<=2147483647:=by rw[M];exact ZA av
 have aa:S'.st.mode=1\/S'.st.mode=2:=by rw[M];exact ZA aw
 have ay:=ZB a9;have az:=ZB aa;have b0:=ZB w1;clear M a9 aa;by_cases b1:n=64
 . subst b1
   clear w1;go_wp2_with fail;go_ret2;exact⟨o+k,l,S',by first | (rw[Av];done) | (rw[Av];rfl),v,⟨64,Z,.inl ⟨ZA E,.inl rfl⟩⟩,y,z⟩
 have b2:¬ ((n:Nat):Int)=64:=Z
 have bp:(((n:Nat):Int) == 64)=false:=uq b2
 have G:=JBJ wr base s d l B S' v _ w1 Z;obtain⟨b,V⟩:=ex (Xj S');rw[<- V] at G;have ab:=ZB V;have r:=fun W (hk:kz wr W)=>JBA W base s d l B S' (v.kO hk) _ w1 Z;clear V w1;cases b
 . clear r
   go_wp2_with (go_at_call 103;refine G.mono ?_;clear G;rintro e w2 ⟨rfl,q⟩);go_ret2;exact⟨o+k,l,S',by first | (rw[Av];done) | (rw[Av];rfl),v.kO q,⟨n,hn,.inl ⟨ZA E,.inr (ZA ab).symm⟩⟩,y.tO q,z⟩
 go_wp2_with (go_at_call 103;refine G.mono ?_;clear G;rintro e w2 ⟨rfl,q⟩;have ac:=r w2 q;clear r)
 have H:=(ZA ab).symm
 have ad:(Ve S'.us S'.lv S'.W.pos.lsn).isSome=true:=by
  unfold Xj at H;rw[Al] at H;exact H.1
 have ae:=ZB H;have b3:=ZB ad;have af:=v.lt;have bq:=ZB af;clear H ad af;refine ac.mono ?_;clear ac v;rintro e w3 (⟨A,_⟩ | ⟨x,b4,b5,I,A,C,X,ag,ah,⟨rfl,D⟩ | ⟨rfl,b6,b7,ai,D,aj⟩⟩)
 . have h9:=ZA b3
   rw[A] at h9;cases h9
 . have Y:=ZB A
   have a0:=ZB C;have a1:=ZB D;have b8:=C.len;obtain⟨ak,-,-,N,-⟩:=D.well (ZA b0) Z [] (by rw[Bg];exact C.ok);have al:=JAK X ak Z (by rw[N];omega) (by rw[N];exact ZA ay) (by rw[N];exact ZA az);have J:=Qv I.us I.lv 8;clear A C D ak N b8 X
   go_wp2_with (
    go_at_call 21
    refine al.mono ?_;clear al;rintro e w4 ⟨u,b9,ba,rfl,K,h4,bb,bc,bd⟩;obtain⟨Q,R,rfl,bf,bg,_⟩:=XB K)
   go_roundw
   case rel=>
    have am:=(y.tO q).trans ag z;have an:=z.trans y.size (ah.keep q);exact⟨n+1,o+k,(relO I.us I.lv 8).length,Q,R,b9,ba,Z,J,by first | (rw[Av];done) | (rw[Av];rfl),rfl,rfl,by go_num,bf,bg,h4,Rnd.more (ZA E) (ZA ae) (ZA Y) (ZA a0) (ZA a1) bb,am.trans bc an,an.trans am.size bd⟩
   case measure=>simp[intOf];omega
 have Y:=ZB A
 have a0:=ZB C;have a1:=ZB D;have bh:=ZB aj;have bi:=ZB ai;clear A C D aj ai;go_wp2_with fail;go_ret2;exact⟨o+k,b5,I,by first | (rw[Av];done) | (rw[Av];rfl),X,⟨n,hn,.inr ⟨Z,S',x,b4,b6,b7,ZA E,ZA ae,ZA Y,ZA a0,ZA bi,ZA a1,ZA bh⟩⟩,(y.tO q).trans ag z,z.trans y.size (ah.keep q)⟩
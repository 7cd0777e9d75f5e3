/- Lemmas of the proof, with their conditions. -/
import Derived.Test.YtfedaknhecbehaaGreatM19
namespace Go.Proofs.YtfedaknhecbehaaGreat
open Tryz Go.RowKit Go.Shelf
variable {B k j a base d g t p m r N:Nat} {D D':PDisk} {us us':List (Nat×Nat)} {W W':PW} {lv lv' Fd Ft Fw F:List Nat} {i:PItem} {bs:List UInt8} {w w':World} {spare:Bool} {A:Option Addr} {L V v:Value} {ty:TypeId} {cs:Array Value}
set_option linter.all false
set_option maxHeartbeats 4000000
set_option maxRecDepth 20000
theorem Ko (i:PItem) (bs:List UInt8) (k:W.pos.seg<8) (g:(us.getD W.pos.seg (0,0)).1=1) (j:KO W.pos.off (W.items.length+1) (W.blocks.length+JM i)) :
 (∀ x,Lies B us W x->Lies B us ⟨W.pos,W.items++[i],if i.loaded then W.blocks++[bs] else W.blocks⟩ x/\KJ B D ⟨W.pos,W.items++[i],if i.loaded then W.blocks++[bs] else W.blocks⟩ x=KJ B D W x/\(i.loaded=true->x≠JC B W.pos.seg+YC W.pos.off 0+W.blocks.length)) /\
 (i.loaded=true->Lies B us ⟨W.pos,W.items++[i],if i.loaded then W.blocks++[bs] else W.blocks⟩ (JC B W.pos.seg+YC W.pos.off 0+W.blocks.length) /\
   KJ B D ⟨W.pos,W.items++[i],if i.loaded then W.blocks++[bs] else W.blocks⟩ (JC B W.pos.seg+YC W.pos.off 0+W.blocks.length)=bs):=by
 by_cases d:i.loaded=true
 . simp only[d,Bo]
   have c:=j.2;unfold JM at c;rw[AJ d] at c
   have f:∀ x,Lies B us W x->x≠JC B W.pos.seg+YC W.pos.off 0+W.blocks.length:=by
    rintro x a rfl;rcases a.here (Vi Z (by unfold YC at c ⊢;omega)) with b | b <;> (try unfold YC at b) <;> omega
   refine⟨fun x a=>⟨⟨a.lo,a.hi,a.used,fun e=>?_⟩,?_,fun _=>f x a⟩,fun _=>⟨⟨?_,?_,?_,fun _=>.inr ⟨by dsimp only;omega,sq⟩⟩,?_⟩⟩
   . simp only at e ⊢
     rcases a.here e with b | b
     . exact .inl b
     exact .inr ⟨b.1,by simp;omega⟩
   . have:=f x a
     unfold KJ;simp only[AE,Af];by_cases h:JC B W.pos.seg+YC W.pos.off 0<=x/\x<JC B W.pos.seg+YC W.pos.off 0+W.blocks.length
     . rw[AJ h,AJ Z,AA,AA,CG Z]
     rw[AF h,AF Z]
   . unfold JC YC;omega
   . unfold JC;unfold YC at c ⊢;omega
   . rw[Vi (s:=W.pos.seg) Z (by unfold YC at c ⊢;omega),g];decide
   unfold KJ
   simp only[AE,Af];rw[AJ Z,AA,Bm Z];rw[show JC B W.pos.seg+YC W.pos.off 0+W.blocks.length-(JC B W.pos.seg+YC W.pos.off 0)-W.blocks.length=0 from Z];rfl
 simp only[Bool.not_eq_true] at d
 simp only[d,Ap,CD,false_implies,and_true];exact fun x a=>⟨⟨a.lo,a.hi,a.used,a.here⟩,rfl⟩
theorem Added.readsG (Y:Added B D us lv W i bs D' us' lv' W' a) (h:Cap D us W k j) (a0:XO us W (JM i))
 (y:D.now.length=D.n*64) (z:D.n=198+4*pgs B) :
 D'.now.length=D'.n*64/\D'.n=D.n/\D'.faults=D.faults/\(∀ x,Lies B us W x->Lies B us' W' x/\KJ B D' W' x=KJ B D W x/\(i.loaded=true->x≠a))/\(i.loaded=true->Lies B us' W' a/\KJ B D' W' a=bs):=by
 obtain⟨d,a1,rfl,ha⟩:=Y;have ae:JM i<=1:=by unfold JM;split <;> omega
 have a2:=h.ul;have u:=h.seg;have l:i.loaded=true->a=JC B d.pos.seg+YC d.pos.off 0+d.blocks.length:=fun b=>by rw[ha,AJ b]
 rcases a1 with⟨m,rfl,rfl,rfl,rfl⟩ | ⟨K,m,g,rfl⟩ | ⟨K,m,rfl,a3,af,L,g,M⟩
 . obtain⟨n,o⟩:=Ko (D:=D') i bs u h.opn m
   refine⟨y,rfl,rfl,fun x f=>?_,fun b=>by rw[l b];exact o b⟩;obtain⟨p,q,r⟩:=n x f;exact⟨p,q,fun b=>by rw[l b];exact r b⟩
 . obtain⟨e1,N,O,P,e5,Q,e7,A,v,a4,a5⟩:=h.emitted g
   obtain⟨n,o⟩:=g.reads h.ok y z u h.off;obtain⟨_,_,_,_,_,_,_,_,_,_,_,w,_,_,C⟩:=g.facts h.ok
   have E:KO d.pos.off (d.items.length+1) (d.blocks.length+JM i):=by
    rw[A,v];refine⟨sq,?_⟩;have:=m.2;simp only[Ai,BB];unfold YC at this ⊢;omega
   obtain⟨F,G⟩:=Ko (B:=B) (D:=D') i bs Z Q E;refine⟨n,w,C,fun x f=>?_,fun b=>by rw[l b];exact G b⟩;obtain⟨p,q⟩:=o x f;obtain⟨r,H,I⟩:=F x p;exact⟨r,H.trans q,fun b=>by rw[l b];exact I b⟩
 have ag:=a0 K m
 obtain⟨t,J⟩:=VL us Z
 have R:W.pos.seg≠XC us:=by
  intro e;have:=h.opn;rw[e,J] at this;omega
 have S:Cap D (VE us (XC us) 1) W (k+11) j:=by
  obtain⟨c,s,h1,h2,h3⟩:=h.cs;refine⟨h.ok,uq a2,u,h.off,?_,⟨c,s+1,Z,h2,?_⟩,h.acts,h.lsn⟩
  . rw[VF _ _ _ _ t,AF R];exact h.opn
  have:=KI us (XC us) 1 t
  rw[J] at this;simp at this;omega
 obtain⟨e1,N,O,P,e5,Q,e7,A,v,a4,a5⟩:=S.emitted g;obtain⟨n,o⟩:=g.reads S.ok y z u h.off;obtain⟨_,_,_,_,_,_,_,_,_,_,_,w,_,_,C⟩:=g.facts h.ok;have ah:22<=QT W:=by unfold KO YC at m;omega
 have a6:=M;obtain⟨t1,t2⟩:=M.reads n (w.trans z) Z P Z Z Z N v;obtain⟨rs,hd,ai,u1,u2,u3,T,a7,U⟩:=a6;have V:=QP a3 (JC B L.pos.seg+L.pos.off) rs 1
 have E:KO d.pos.off (d.items.length+1) (d.blocks.length+JM i):=by
  rw[U];simp only[A,v];unfold KO YC;simp;omega
 have a8:d.pos.seg=XC us:=by rw[U]
 have a9:(us'.getD d.pos.seg (0,0)).1=1:=by
  rw[a8,a7,VF _ _ _ _ (by simp;omega),O,AF (fun e=>R e.symm),XG];rcases g.facts h.ok with⟨_,_,_,_,_,_,_,_,_,aa,_⟩;rcases aa with rfl | rfl
  . rw[VF _ _ _ _ t,AJ rfl]
  rw[XG,VF _ _ _ _ t,AJ rfl]
 obtain⟨F,G⟩:=Ko (B:=B) (D:=D') i bs Z a9 E;have ab:D'.n=D.n:=by rw[T];exact V.1.trans w
 have ac:D'.faults=D.faults:=by rw[T];exact V.2.2.2.2.1.trans C
 refine⟨t1,ab,ac,fun x f=>?_,fun b=>by rw[l b];exact G b⟩;have X:(x-(6+4*pgs B)) / 24≠XC us:=fun e=>f.used (by rw[e];exact J);have ad:Lies B (VE us (XC us) 1) W x:=⟨f.lo,f.hi,by rw[VF _ _ _ _ t,AF X];exact f.used,f.here⟩;obtain⟨p,q⟩:=o x ad;obtain⟨r,H⟩:=t2 x p X;obtain⟨I,q6,q7⟩:=F x r;exact⟨I,q6.trans (H.trans q),fun b=>by rw[l b];exact q7 b⟩
theorem Added.reads (b:Added B D us lv W i bs D' us' lv' W' a) (h:Cap D us W k j) (c:k<=50)
 (d:D.now.length=D.n*64) (e:D.n=198+4*pgs B) :
 D'.now.length=D'.n*64/\D'.n=D.n/\D'.faults=D.faults/\(∀ x,Lies B us W x->Lies B us' W' x/\KJ B D' W' x=KJ B D W x/\(i.loaded=true->x≠a))/\(i.loaded=true->Lies B us' W' a/\KJ B D' W' a=bs):=
 b.readsG h (h.frees c (by unfold JM;split <;> omega)) d e
theorem LogIs.ul (h:LogIs w base d g t p Fd Ft Fw B D us lv W):us.length=8:=by obtain⟨L,V,a⟩:=h.tab;exact a.ulen
def RoomOk (us:List (Nat×Nat)) (W:PW) (m:Nat) (spare:Bool):Prop:=
 ¬ KO W.pos.off (W.items.length+1) (W.blocks.length+m)->¬ KO (QT W) 1 m->XC us<8/\(us.getD (XC us) (0,0)).1=0/\(spare=false->2<YB us)
theorem VBG (h:LogIs w base d g t p Fd Ft Fw B D us lv W) (i:W.Ok) (m:Nat) (J:m<=1) (spare:Bool)
 (a:KO W.pos.off (W.items.length+1) (W.blocks.length+m)) :
 cr 237 #[pq p,m,.bool spare] w zz:=by
 obtain⟨I,K,ls,c⟩:=h.wri;obtain⟨s,u,rfl,_⟩:=XB c.its;obtain⟨v,y,rfl,_⟩:=XB c.bls;have f:=c.blk;have j:=c.len;have z:W.blocks.length<=6:=by rw[i.many];exact AB (YK _) i.few
 have A:=i.few;have C:=h.pos.2.1;obtain⟨n,q⟩:=ex W.items.length;obtain⟨b,r⟩:=ex W.blocks.length;obtain⟨k,l⟩:=ex W.pos.off;rw[<- q] at f A a;rw[<- r] at j z a;rw[j,<- l] at f;rw[<- l] at C a;have o:=Zc (g:=g) (B:=B) f.drew sq (h.geom.kO kq.drew) k (n+1) (b+m) Z Z Z;rw[AH (show n+1<=6/\YC k (b+m)<24 from a),show ((n+1:Nat):Int)=(n:Int)+1 from Z,show ((b+m:Nat):Int)=(b:Int)+(m:Int) from Z] at o;obtain⟨L,M,N,O,E,P,Q,R,F,G⟩:=QE f.drew;clear l q r j a;go_enter func237,ntmps237;go_wp2_with fail;refine ZT (fun w'=>cl w' (aq p 4) (ii k)/\cl w' (aq p 8) (.slice s n u)/\cl w' (aq p 9) (.slice v b y)) 19 [[0,1,2,3,4,5,6,7,8,9,10,11,12,13,14,15,16,17,18]] ⟨E,F,G⟩ ?_;simp only[PI];iterate 19 refine wG ?_
 refine VB ?_;go_wp2_with (refine o.mono ?_;clear o;rintro e S ⟨rfl,H⟩);go_ret;exact⟨rfl,kq.drew.tO H⟩
theorem JAz (h:LogIs w base d g t p Fd Ft Fw B D us lv W) (E:W.Ok) (a9:W.pos.off<=23) (hm:m<=1) (spare:Bool) (ha:D.acts<=8000000) (a4:W.pos.lsn<2147483647)
 (u:¬ KO W.pos.off (W.items.length+1) (W.blocks.length+m)) (hf:KO (QT W) 1 m) :
 Calls prog 237 #[pq p,m,.bool spare] w fun e w'=>e=.returned zz/\∃ q Fw' D' us' W',LogIs w' base d g t p q Ft Fw' B D' us' lv W'/\Emitted B D us W D' us' W'/\Keep (Fd++(Ft++Fw)) w w'/\Grow w Fd q/\Grow w Fw Fw':=by
 have F:=fun b (r:kz w b)=>YAG (h.kO r) E ha a4;obtain⟨I,aa,ls,G⟩:=h.wri;obtain⟨L,M,rfl,_⟩:=XB G.its;obtain⟨N,O,rfl,_⟩:=XB G.bls;have v:=G.blk;have P:=G.len;have a5:W.blocks.length<=6:=by rw[E.many];exact AB (YK _) E.few
 have a6:=E.few;have a7:=h.pos.2.1;have a0:=h.geom;have a1:W.items.length=0->W.items=[]:=Aw;have a2:W.items=[]->W.items.length=0:=fun e=>by rw[e];rfl
 obtain⟨n,H⟩:=ex W.items.length;obtain⟨k,J⟩:=ex W.blocks.length;obtain⟨o,y⟩:=ex W.pos.off;obtain⟨s,K⟩:=ex (QT W)
 have a3:(n=0/\s=o)\/(0<n/\s=YC o k):=by
  rw[K,H,y,J];unfold QT;by_cases Q:W.items.length=0
  . exact .inl ⟨Q,by rw[AJ (a1 Q)]⟩
  exact .inr ⟨Z,by rw[AF (fun e=>Q (a2 e))]⟩
 have a8:s<=100:=by rcases a3 with⟨_,e⟩ | ⟨_,e⟩ <;> rw[e] <;> first | omega | (unfold YC;omega)
 rw[<- K] at hf;rw[<- H] at v a6 u;rw[<- J] at P a5 u;rw[P,<- y] at v;rw[<- y] at a7 u;have z:=Zc (g:=g) (B:=B) v.drew sq (a0.kO kq.drew) o (n+1) (k+m) Z Z Z;rw[AU (show ¬ (n+1<=6/\YC o (k+m)<24) from u),show ((n+1:Nat):Int)=(n:Int)+1 from Z,show ((k+m:Nat):Int)=(k:Int)+(m:Int) from Z] at z;have A:=fun b (r:kz w b)=>Zc (v.kO r) sq (a0.kO r) s 1 m a8 Z Z;have R:=fun b=>Za o k Z Z b;rw[AH (show 1<=6/\YC s m<24 from hf)] at A
 have C:∀ {b},kz w b->cl b (aq p 2) (pq t)/\cl b (aq p 4) (ii o)/\cl b (aq p 8) (.slice L n M)/\cl b (aq p 9) (.slice N k O):=fun r=>by
  obtain⟨ab,ac,l,ad,f,c5,c6,c7,i,j⟩:=QE (v.kO r);exact⟨l,f,i,j⟩
 obtain⟨l,f,i,j⟩:=C kq.drew;have ae:=ZB y;have af:=ZB H;have ag:=ZB J;have ah:=ZB K;clear y H J P u a1 a2 K;rcases a3 with⟨rfl,rfl⟩ | ⟨ai,rfl⟩
 . clear R
   go_enter func237,ntmps237;go_wp2_with fail;refine ZT (fun w'=>cl w' (aq p 4) (ii s)/\cl w' (aq p 8) (.slice L (0:Nat) M)/\cl w' (aq p 9) (.slice N k O)) 19 [[0,1,2,3,4,5,6,7,8,9,10,11,12,13,14,15,16,17,18]] ⟨f,i,j⟩ ?_;simp only[PI];iterate 19 refine wG ?_
   refine VB ?_;clear l f i j
   go_wp2_with (first
    | (go_at_call 346
       refine z.mono ?_;clear z;rintro e w2 ⟨rfl,c⟩;replace c:=(Keep.refl [] w).drew.tO c
       obtain⟨l,f,i,j⟩:=C c)
    | (go_at_call 346
       refine(A _ c).mono ?_;clear A;rintro e w3 ⟨rfl,a⟩;replace a:=c.tO a
       obtain⟨l,f,i,j⟩:=C a)
    | (go_at_call 94
       refine(F _ a).mono ?_;clear F;rintro e w4 ⟨rfl,q,Fw',D',us',W',S,T,U,V,X⟩))
   go_ret;exact⟨rfl,q,Fw',D',us',W',S,T,a.zero.trans U (fun x Y=>.inl Y),V.keep a,X.keep a⟩
 have aj:(0:Int)<(n:Nat):=Z
 go_enter func237,ntmps237;go_wp2_with fail;refine ZT (fun w'=>cl w' (aq p 4) (ii o)/\cl w' (aq p 8) (.slice L n M)/\cl w' (aq p 9) (.slice N k O)) 19 [[0,1,2,3,4,5,6,7,8,9,10,11,12,13,14,15,16,17,18]] ⟨f,i,j⟩ ?_;simp only[PI];iterate 19 refine wG ?_
 refine VB ?_;clear l f i j
 go_wp2_with (first
  | (go_at_call 346
     refine z.mono ?_;clear z;rintro e w2 ⟨rfl,c⟩;replace c:=(Keep.refl [] w).drew.tO c
     obtain⟨l,f,i,j⟩:=C c)
  | (go_at_call 333
     refine(R _).mono ?_;clear R
     rintro e w' ⟨rfl,rfl⟩)
  | (go_at_call 346
     refine(A _ c).mono ?_;clear A;rintro e w3 ⟨rfl,a⟩;replace a:=c.tO a
     obtain⟨l,f,i,j⟩:=C a)
  | (go_at_call 94
     refine(F _ a).mono ?_;clear F;rintro e w4 ⟨rfl,q,Fw',D',us',W',S,T,U,V,X⟩))
 go_ret;exact⟨rfl,q,Fw',D',us',W',S,T,a.zero.trans U (fun x Y=>.inl Y),V.keep a,X.keep a⟩
theorem ZBE (h:LogIs w base d g t p Fd Ft Fw B D us lv W) (A:W.Ok) (an:W.pos.off<=23) (m:Nat) (hm:m<=1) (spare:Bool) (ha:D.acts<=7000000) (b1:W.pos.lsn<2147483646)
 (H:¬ KO W.pos.off (W.items.length+1) (W.blocks.length+m)) (hf:¬ KO (QT W) 1 m) (T:(us.getD W.pos.seg (0,0)).1=1) (ao:XC us<8) (ap:(us.getD (XC us) (0,0)).1=0) (ar:spare=false->2<YB us) :
 Calls prog 237 #[pq p,m,.bool spare] w fun e w'=>e=.returned zz/\∃ J Fw' c f b D' us' W',LogIs w' base d g t p J Ft Fw' B D' us' (lv.set (XC us) 0) W'/\Emitted B D (VE us (XC us) 1) W c f b/\Turned B c f b (XC us) D' us' W'/\Keep (Fd++(Ft++Fw)) w w'/\Grow w Fd J/\Grow w Fw Fw':=by
 have au:=h.ul;have U:=fun b (C:kz w b)=>KBM (h.kO C).tab spare ar ao;have av:22<=QT W:=by unfold KO YC at hf;omega
 have V:=fun b (h1:LogIs b base d g t p Fd Ft Fw B D (VE us (XC us) 1) (lv.set (XC us) 0) W)=>YAG h1 A Z Z;have ag:=fun c f b (a2:Emitted B D (VE us (XC us) 1) W c f b)=>a2.facts A
 have X:∀ q E y c f b,LogIs q base d g t p E Ft y B c f (lv.set (XC us) 0) b->Emitted B D (VE us (XC us) 1) W c f b ->
  Calls prog 348 #[pq p,(XC us:Nat)] q fun e w'=>e=.returned zz/\∃ J D' us' W',LogIs w' base d g t p J Ft y B D' us' (lv.set (XC us) 0) W'/\Turned B c f b (XC us) D' us' W'/\Keep (E++(Ft++[p])) q w'/\Grow q E J:=by
  intro q E y c f b h1 a2;obtain⟨f1,f2,f3,f4,f5,f6,f7,f8,f9,aw,b2⟩:=ag _ _ _ a2
  have b3:b.pos.off=QT W:=by
   by_cases r:W.items=[]
   . rw[f7 r];unfold QT;rw[AJ r]
   exact f8 r
  have b4:QT W<=23:=by
   unfold QT
   split
   . exact an
   rename_i r;exact A.fit r
  have b5:=h.pos.1;have ah:W.pos.seg≠XC us:=fun e=>by rw[e,ap] at T;cases T
  refine QBW h1 (XC us) Z Z Z Z Z ?_;rw[f3];rcases aw with rfl | rfl
  . rw[VF _ _ _ _ Z,AF ah];exact T
  rw[XG,VF _ _ _ _ Z,AF ah];exact T
 have ai:=h;clear ag av au;obtain⟨I,b6,ls,F⟩:=h.wri;obtain⟨a3,ic,rfl,_⟩:=XB F.its;obtain⟨a4,bc,rfl,_⟩:=XB F.bls;have K:=F.blk;have a5:=F.len;have ax:W.blocks.length<=6:=by rw[A.many];exact AB (YK _) A.few
 have ay:=A.few;have az:=h.pos.2.1;have aj:=h.geom;have ak:W.items.length=0->W.items=[]:=Aw;have al:W.items=[]->W.items.length=0:=fun e=>by rw[e];rfl
 obtain⟨n,Y⟩:=ex W.items.length;obtain⟨s,a0⟩:=ex W.blocks.length;obtain⟨z,L⟩:=ex W.pos.off;obtain⟨G,a1⟩:=ex (QT W)
 have am:(n=0/\G=z)\/(0<n/\G=YC z s):=by
  rw[a1,Y,L,a0];unfold QT;by_cases r:W.items.length=0
  . exact .inl ⟨r,by rw[AJ (ak r)]⟩
  exact .inr ⟨Z,by rw[AF (fun e=>r (al e))]⟩
 have b0:G<=100:=by rcases am with⟨_,e⟩ | ⟨_,e⟩ <;> rw[e] <;> first | omega | (unfold YC;omega)
 rw[<- a1] at hf;rw[<- Y] at K ay H;rw[<- a0] at a5 ax H;rw[a5,<- L] at K;rw[<- L] at az H;have M:=Zc (g:=g) (B:=B) K.drew sq (aj.kO kq.drew) z (n+1) (s+m) Z Z Z;rw[AU (show ¬ (n+1<=6/\YC z (s+m)<24) from H),show ((n+1:Nat):Int)=(n:Int)+1 from Z,show ((s+m:Nat):Int)=(s:Int)+(m:Int) from Z] at M;have N:=fun b (C:kz w b)=>Zc (K.kO C) sq (aj.kO C) G 1 m b0 Z Z;have a6:=fun b=>Za z s Z Z b;rw[AU (show ¬ (1<=6/\YC G m<24) from hf)] at N
 have O:∀ {b},kz w b->cl b (aq p 2) (pq t)/\cl b (aq p 4) (ii z)/\cl b (aq p 8) (.slice a3 n ic)/\cl b (aq p 9) (.slice a4 s bc):=fun C=>by
  obtain⟨b7,b8,v,b9,k,c5,c6,c7,l,o⟩:=QE (K.kO C);exact⟨v,k,l,o⟩
 obtain⟨v,k,l,o⟩:=O kq.drew;have ba:=ZB L;have bb:=ZB Y;have bd:=ZB a0;have bf:=ZB a1;clear L Y a0 a5 H ak al a1;rcases am with⟨rfl,rfl⟩ | ⟨bg,rfl⟩
 . clear a6
   go_enter func237,ntmps237;go_wp2_with fail;refine ZT (fun w'=>cl w' (aq p 4) (ii G)/\cl w' (aq p 8) (.slice a3 (0:Nat) ic)/\cl w' (aq p 9) (.slice a4 s bc)) 19 [[0,1,2,3,4,5,6,7,8,9,10,11,12,13,14,15,16,17,18]] ⟨k,l,o⟩ ?_;simp only[PI];iterate 19 refine wG ?_
   refine VB ?_;clear v k l o
   go_wp2_with (first
    | (go_at_call 346
       refine M.mono ?_;clear M;rintro e w2 ⟨rfl,j⟩;replace j:=(Keep.refl [] w).drew.tO j
       obtain⟨v,k,l,o⟩:=O j)
    | (go_at_call 346
       refine(N _ j).mono ?_;clear N;rintro e w3 ⟨rfl,i⟩;replace i:=j.tO i
       obtain⟨v,k,l,o⟩:=O i)
    | (go_at_call 347
       refine(U _ i).mono ?_;clear U;rintro e w4 ⟨rfl,a7,P⟩
       have h4:=(ai.kO i).setTab a7 P)
    | (go_at_call 94
       refine(V _ h4).mono ?_;clear V
       rintro e w5 ⟨rfl,E,y,c,f,b,h5,Q,a8,R,a9⟩)
    | (go_at_call 348
       refine(X _ _ _ _ _ _ h5 Q).mono ?_;clear X;rintro e w6 ⟨rfl,aa,ab,ac,q,h6,ad,ae,af⟩))
   go_ret;have u:Keep (Fd++(Ft++Fw)) w w4:=i.zero.trans P (fun x a=>.inl (by simp[a]));have S:=u.trans a8 (fun x a=>.inl a);refine⟨rfl,aa,y,c,f,b,ab,ac,q,h6,Q,ad,S.trans ae ?_,(R.keep u).trans S.size af,a9.keep u⟩;intro x a;simp only[AD,Ag] at a ⊢;rcases a with a | a | rfl
   . rcases R x a with a | a
     . exact .inl (.inl a)
     exact .inr (AB u.size a)
   . exact .inl (.inr (.inl a))
   exact .inl (.inr (.inr F.inP))
 have bh:(0:Int)<(n:Nat):=Z
 go_enter func237,ntmps237;go_wp2_with fail;refine ZT (fun w'=>cl w' (aq p 4) (ii z)/\cl w' (aq p 8) (.slice a3 n ic)/\cl w' (aq p 9) (.slice a4 s bc)) 19 [[0,1,2,3,4,5,6,7,8,9,10,11,12,13,14,15,16,17,18]] ⟨k,l,o⟩ ?_;simp only[PI];iterate 19 refine wG ?_
 refine VB ?_;clear v k l o
 go_wp2_with (first
  | (go_at_call 346
     refine M.mono ?_;clear M;rintro e w2 ⟨rfl,j⟩;replace j:=(Keep.refl [] w).drew.tO j
     obtain⟨v,k,l,o⟩:=O j)
  | (go_at_call 333
     refine(a6 _).mono ?_;clear a6
     rintro e w' ⟨rfl,rfl⟩)
  | (go_at_call 346
     refine(N _ j).mono ?_;clear N;rintro e w3 ⟨rfl,i⟩;replace i:=j.tO i
     obtain⟨v,k,l,o⟩:=O i)
  | (go_at_call 347
     refine(U _ i).mono ?_;clear U;rintro e w4 ⟨rfl,a7,P⟩
     have h4:=(ai.kO i).setTab a7 P)
  | (go_at_call 94
     refine(V _ h4).mono ?_;clear V
     rintro e w5 ⟨rfl,E,y,c,f,b,h5,Q,a8,R,a9⟩)
  | (go_at_call 348
     refine(X _ _ _ _ _ _ h5 Q).mono ?_;clear X;rintro e w6 ⟨rfl,aa,ab,ac,q,h6,ad,ae,af⟩))
 go_ret;have u:Keep (Fd++(Ft++Fw)) w w4:=i.zero.trans P (fun x a=>.inl (by simp[a]));have S:=u.trans a8 (fun x a=>.inl a);refine⟨rfl,aa,y,c,f,b,ab,ac,q,h6,Q,ad,S.trans ae ?_,(R.keep u).trans S.size af,a9.keep u⟩;intro x a;simp only[AD,Ag] at a ⊢;rcases a with a | a | rfl
 . rcases R x a with a | a
   . exact .inl (.inl a)
   exact .inr (AB u.size a)
 . exact .inl (.inr (.inl a))
 exact .inl (.inr (.inr F.inP))
theorem elemItems:ElemN prog 255 178 (.agg #[zz,zz,zz,zz]) 4 32:=ElemN.of underlying255 (by kernel_rfl) rfl Z
theorem KAq (h:LogIs w base d g t p Fd Ft Fw B D us lv W) (f:W.Ok) (q:W.pos.off<=23) (i:m<=1) (s:D.acts<=7000000) (u:W.pos.lsn<2147483646)
 (v:(us.getD W.pos.seg (0,0)).1=1) (y:RoomOk us W m spare) :
 Calls prog 237 #[pq p,m,.bool spare] w fun e w'=>e=.returned zz/\∃ b Fw' D' us' lv' W',LogIs w' base d g t p b Ft Fw' B D' us' lv' W'/\Roomed B D us lv W m D' us' lv' W'/\Keep (Fd++(Ft++Fw)) w w'/\Grow w Fd b/\Grow w Fw Fw':=by
 by_cases a:KO W.pos.off (W.items.length+1) (W.blocks.length+m)
 . refine(VBG h f m i spare a).mono ?_
   rintro e w' ⟨rfl,r⟩;exact⟨rfl,Fd,Fw,D,us,lv,W,h.kO r,.inl ⟨a,rfl,rfl,rfl,rfl⟩,r.zero,Grow.refl _ _,Grow.refl _ _⟩
 by_cases c:KO (QT W) 1 m
 . refine(JAz h f q i spare Z Z a c).mono ?_
   rintro e w' ⟨rfl,b,Fw',D',us',W',j,k,l,n,o⟩;exact⟨rfl,b,Fw',D',us',lv,W',j,.inr (.inl ⟨a,c,k,rfl⟩),l,n,o⟩
 obtain⟨z,A,C⟩:=y a c
 refine(ZBE h f q m i spare s u a c v z A C).mono ?_;rintro e w' ⟨rfl,b,Fw',E,F,G,D',us',W',j,k,l,n,o,H⟩;exact⟨rfl,b,Fw',D',us',_,W',j,.inr (.inr ⟨a,c,rfl,E,F,G,k,l⟩),n,o,H⟩
theorem Roomed.few (h:Roomed B D us lv W m D' us' lv' W') (a:W.Ok):W'.items.length<=6/\W'.blocks.length<=6:=by
 have e:W.blocks.length<=6:=by rw[a.many];exact AB (YK _) a.few
 rcases h with⟨_,_,_,_,rfl⟩ | ⟨_,_,b,_⟩ | ⟨_,_,_,g,i,j,b,f⟩
 . exact⟨a.few,e⟩
 . obtain⟨c,d,_⟩:=b.facts a
   rw[c,d];simp
 obtain⟨c,d,_⟩:=b.facts a
 obtain⟨_,_,_,_,_,_,_,_,rfl⟩:=f;simp only[c,d];simp
theorem QK {t:TypeId} {a b c d:Value} (h:Blk w g t #[a,b,c,d]):cl w g a/\cl w (aq g 1) b/\cl w (aq g 2) c/\cl w (aq g 3) d:=
 ⟨uq (h.cell 0),uq (h.cell 1),uq (h.cell 2),uq (h.cell 3)⟩
theorem WriterIs.setRows {I B I' B':Value} {ls ls':List (Value×List UInt8)} (h:WriterIs w base p d g t I B ls F W) (a:List PItem) (b:List (List UInt8))
 (c:Blk w' p 273 #[pq d,pq g,pq t,ii W.pos.seg,ii W.pos.off,ii W.pos.lsn,ii W.pos.prev,ii W.pos.mount,I',B'])
 (hi:w'.ownsRow base 178 4 I' a.length (a.flatMap itc)) (e:w'.ownsRow base 66 1 B' ls'.length (ls'.map (·.1))) (f:∀ q∈ls',w'.ownsRow base 5 1 q.1 64 (bys q.2)) (i:ls'.map (·.2)=b) :
 WriterIs w' base p d g t I' B' ls' (p :: (I'.ownBlock.toList++(B'.ownBlock.toList++ls'.flatMap (fun q=>q.1.ownBlock.toList)))) ⟨W.pos,a,b⟩:=
 ⟨c,hi,e,f,i,rfl,h.base⟩
theorem XAZ (h:LogIs w base d g t p Fd Ft Fw B D us lv W) (ho:W.Ok) (cg:W.pos.off<=23) (ha:D.acts<=7000000) (ch:W.pos.lsn<2147483646)
 (ci:(us.getD W.pos.seg (0,0)).1=1) (hi:i.May) (h7:i.k≠7) (hr:RoomOk us W (JM i) spare) (c:Nat) (bs:List UInt8) (hb:Rd w A (64*JM i) (bys bs)) (cw:∀ a,A=some a->a.block∉Fd++(Ft++Fw)) :
 Calls prog 105 #[pq p,.agg (itc i).toArray,.slice A (64*JM i) c,.bool spare] w fun e w'=>∃ a:Nat,e=.returned (.tuple #[(a:Nat),zz])/\∃ cj Fw' D' us' lv' W',
  LogIs w' base d g t p cj Ft Fw' B D' us' lv' W'/\Added B D us lv W i bs D' us' lv' W' a/\Keep (Fd++(Ft++Fw)) w w'/\Grow w Fd cj/\Grow w Fw Fw':=by
 obtain⟨k,b,G,v⟩:=i;have cx:=hi.bounds;simp only at cx h7;have a6:=fun W=>Xh hi W;have av:=fun W=>Vl hi W;simp only[itc] at a6 av ⊢;have a4:=Blk.new w 178 #[ii k,ii b,ii G,ii v];have am:=fun a5 (hk:kz w a5)=>YAD a5 base d Fd D (h.kO hk).disk;have di:¬ ((k:Nat):Int)=7:=Z
 by_cases hl:PItem.loaded ⟨k,b,G,v⟩=true
 . have ad:JM ⟨k,b,G,v⟩=1:=by unfold JM;rw[AJ hl]
   rw[ad] at hr;rw[ad,Cz] at hb;rw[ad,Cz];rw[hl] at a6;have aw:=fun a5 (hk:kz w a5)=>KAq (h.kO hk) ho cg Z ha ch ci hr;rw[h.off] at am;obtain⟨ax,ab⟩:=ex (w.alloc (.cells #[ii k,ii b,ii G,ii v] 178));have bj:kz w ax:=by rw[ab];exact kq.alloc _
   rw[<- ab] at a4;have cy:=a4.lt;obtain⟨b0,b1,y,z⟩:=QK a4
   have br:∀ {a5},kz w a5->cl a5 p (pq d):=fun hk=>by
    obtain⟨I,cz,ls,hw⟩:=h.wri;exact(QE (hw.blk.kO hk)).1
   go_enter func105,ntmps105;go_wp2_with fail;rw[<- ab]
   go_wp2_with (first
    | (go_at_call 212
       refine(a6 _).mono ?_;clear a6 b0 b1 y z;rintro e w1 ⟨rfl,ay⟩
       obtain⟨b0,b1,y,z⟩:=QK (a4.kO ay))
    | (go_at_call 236
       refine(av _).mono ?_;clear av b0 b1 y z;rintro e w2 ⟨rfl,Y⟩;replace Y:=ay.tO Y;have S:=bj.tO Y;have bt:=br S
       obtain⟨b0,b1,y,z⟩:=QK (a4.kO Y))
    | (go_at_call 134
       refine(am _ S).mono ?_;clear am
       rintro e w' ⟨rfl,rfl⟩)
    | (go_at_call 237
       refine(aw _ S).mono ?_;clear aw;rintro e H ⟨rfl,bu,a7,bv,bw,bx,o,T,az,b2,bz,ai⟩))
   have b3:∀ x∈Fd++(Ft++Fw),x<w.heap.size:=fun x f=>by
    simp only[AD] at f;rcases f with f | f | f
    . exact h.disk.lt x f
    . exact h.tab.lt x f
    exact h.wri.lt x f
   have an:Keep (Fd++(Ft++Fw)) w H:=S.zero.trans b2 (fun x f=>.inl f);have aj:=(a4.kO Y).keep b2 (fun j=>CQ _ (b3 _ j));have d0:Rd H A 64 (bys bs):=hb.keepIf an cw;obtain⟨d1,ck,s,l⟩:=T.wri;have ao:=az.few ho;obtain⟨ae,ic,a0,_⟩:=XB l.its;obtain⟨b4,bc,ak,_⟩:=XB l.bls;have U:=l.blk;have bk:=ZB l.len;have bl:=l.bls;rw[a0,ak] at U;rw[ak] at bl;have cm:=KV c bs d0.drew Z;clear b0 b1 y z bt;obtain⟨J,L,M,N,O,P,Q,R,C,E⟩:=QE U.drew;refine ZT (fun w'=>cl w' (aq p 9) (.slice b4 s.length bc)) 9 [[0,1,2,3,4,5],[6],[7],[8]] E ?_;simp only[PI];iterate 6 refine wG ?_
   refine JB rq fun K V=>?_;go_wp2_with (refine cm.mono ?_;clear cm;rintro e w4 ⟨u,rfl,hu,d2,_⟩);have cn:kz H w4:=kq.drew.tO d2;obtain⟨ac,uc,rfl,_⟩:=XB hu;clear J L M N O P Q R C E;obtain⟨J,L,M,N,O,P,Q,R,C,E⟩:=QE (U.kO cn);refine V _ _ (E) ?_
   try simp only[Act.put,PU]
   refine JB rq fun K V=>?_;go_wp2_with fail;have co:s.length<=6:=by rw[ZA bk];exact ao.2
   have co:s.length<=6:=by rw[ZA bk];exact ao.2
   have co:s.length<=6:=by rw[ZA bk];exact ao.2
   have d3:=XS w4 (Value.slice ac 64 uc) 66;have a1:kz H (w4.alloc (.cells #[Value.slice ac 64 uc] 66)):=cn.alloc _;have cp:=XE hu (.cells #[Value.slice ac 64 uc] 66);generalize dj:w4.alloc (.cells #[Value.slice ac 64 uc] 66)=w5 at *;generalize dk:w4.heap.size=n4 at *;clear J L M N O P Q R C E;obtain⟨J,L,M,N,O,P,Q,R,C,E⟩:=QE (U.kO a1);refine V _ _ (E) ?_
   try simp only[Act.put,PU]
   refine JB rq fun K V=>?_;refine elemRows.wp1_app (.tmp 53) (.tmp 56) rq base (.slice b4 s.length bc) s.length (s.map (·.1)) rq (QB bl a1) (some n4) 1 1 [Value.slice ac 64 uc] rq d3 (by simp[Value.oneCell']) Z Z (AB T.le a1.size) ?_;intro dl w6 cq al c2 _;rw[<- ak] at al c2;have cr:p∉ck.ownBlock.toList:=l.pB;have c4:=(U.kO a1).keep al cr;clear J L M N O P Q R C E;obtain⟨J,L,M,N,O,P,Q,R,C,E⟩:=QE c4;refine V _ _ (E) ?_
   try simp only[Act.put,PU]
   refine VB ?_;have f9:=c4.frozen 9;obtain⟨a8,a9,rfl,_⟩:=XB cq;go_wp2_with fail;have b5:=c4.set 9 (.slice a8 (s.length+1) a9);have ap:Keep [p] w6 (w6.setCell (aq p 9) (.slice a8 (s.length+1) a9)):=kq.sc p 9
   have cs:∀ g∈(Value.slice a8 (s.length+1) a9).ownBlock.toList,g∉[p]:=fun g X j=>by
    simp at j;subst j;rcases c2 with e | e
    . rw[e] at X;exact cr X
    rw[e] at X;simp at X;subst X;have:=U.lt;have:=a1.size;omega
   have ct:=KA cq ap (fun g X=>cs g (uq X))
   have d4:∀ {q:Value} {n:Nat} {ys:List Value},H.ownsRow base 5 1 q n ys->p∉q.ownBlock.toList->(w6.setCell (aq p 9) (.slice a8 (s.length+1) a9)).ownsRow base 5 1 q n ys:=fun r hp=>
    KA (KA (QB r a1) al (fun x f j=>own_ne r l.bls (by decide) f (uq j))) ap (fun x f j=>by simp at j;subst j;exact hp (uq f))
   have d5:=KA (KA (QB l.its a1) al (fun x f j=>own_ne l.its l.bls (by decide) f (uq j))) ap (fun x f j=>by simp at j;subst j;exact l.pI (uq f));have d6:=((aj.kO a1).keep al (fun j=>own_blk_ne (QB l.bls a1) (aj.kO a1) (by decide) (uq j))).keep ap (fun j=>by simp at j;have:=U.lt;exact Blk.ne_ U aj (by decide) j.symm)
   have d7:=KA (KA (VC cp (show base<=H.drew.heap.size from T.le)) al (fun x f j=>own_ne cp (QB l.bls a1) (by decide) f (uq j))) ap (fun x f j=>by
    simp at j;rw[j] at f;have h1:=(own_mem hu (g:=p) (uq f)).1;have h2:=U.lt;have:H.drew.heap.size=H.heap.size:=rfl;omega)
   simp at b5;have bm:Keep a7 H (w6.setCell (aq p 9) (.slice a8 (s.length+1) a9)):=(a1.zero.trans (al.sub (m:=a7) (fun x f=>l.inB x f)) (fun x f=>.inl f)).trans (ap.sub (m:=a7) (fun x f=>by simp at f;subst f;exact l.inP)) (fun x f=>.inl f)
   have d8:∀ g∈(Value.slice a8 (s.length+1) a9).ownBlock.toList,g∈a7\/H.heap.size<=g:=fun g X=>by
    rcases c2 with e | e
    . rw[e] at X;exact .inl (l.inB g X)
    rw[e] at X;simp at X;subst X;exact .inr a1.size
   have cu:∀ q∈s++[((Value.slice ac 64 uc),bs)],(w6.setCell (aq p 9) (.slice a8 (s.length+1) a9)).ownsRow base 5 1 q.1 64 (bys q.2):=fun q r=>by
    rcases AD.1 r with r | r
    . exact d4 (l.dat q r) (l.pQ r)
    simp at r;subst r;exact d7
   have cv:∀ g∈(Value.slice ac 64 uc).ownBlock.toList,H.heap.size<=g:=fun g X=>(own_mem hu X).1;generalize w6.setCell (aq p 9) (.slice a8 (s.length+1) a9)=w7 at *;have d9:=T.geom.keep bm T.gw;have b6:=T.pos;obtain⟨c5,b7⟩:=ex o.pos.seg;obtain⟨c6,bn⟩:=ex o.pos.off;have c7:=ZAN (g:=g) (B:=B) b5.drew sq c5 c6 (by rw[b7];exact b6.1) (by rw[bn];have:=b6.2.1;omega) (by simp[b7]) (by simp[bn]) (d9.kO kq.drew);have dm:=(ZD T.geom.pos T.geom.few).2;have dn:c5<=7:=by rw[b7];exact b6.1
   have dp:YC c6 0<=30:=by have:=b6.2.1;unfold YC;omega
   obtain⟨fs,c8⟩:=ex (6+4*pgs B+24*c5+YC c6 0);rw[<- c8] at c7;have dq:fs<=400:=Z
   have dr:IntKind.i64.wrap (((fs:Nat):Int)+(((s.length:Nat):Int)+1)-1)=((fs+s.length:Nat):Int):=by rw[AI];omega
   have da:=ZB c8;have db:=ZB b7;have dc:=ZB bn;clear c8 b7 bn b6;clear J L M N O P Q R C E;obtain⟨J,L,M,N,O,P,Q,R,C,E⟩:=QE b5.drew;refine ZT (fun w'=>cl w' (aq p 9) (.slice a8 (s.length+1) a9)) 7 [[0,2,3,4,5,6],[1]] E ?_;simp only[PI];iterate 6 refine wG ?_
   refine JB rq fun K V=>?_;go_wp2_with (refine c7.mono ?_;clear c7;rintro e w8 ⟨rfl,dd⟩);have ar:kz w7 w8:=kq.drew.tO dd;clear J L M N O P Q R C E;obtain⟨J,L,M,N,O,P,Q,R,C,E⟩:=QE (b5.kO ar);refine V _ _ (E) ?_
   try simp only[Act.put,PU]
   refine VB ?_;go_wp2_with fail;clear J L M N O P Q R C E;have bo:=b5.kO ar;have bp:=QB d5 ar;have c9:=d6.kO ar
   have ca:∀ x∈a7,x≠w.heap.size:=fun x f e=>by
    rcases ai x f with b8 | b8
    . have:=b3 x (by simp[b8]);omega
    have:=S.size;have:=bj.size;rw[ab] at this;simp at this;have:ax.heap.size=w.heap.size+1:=by rw[ab];simp
    have:=Y.size;omega
   have cb:base<=w8.heap.size:=AB T.le (AB bm.size ar.size);have de:o.items.length<=6:=ao.1;rw[a0] at bp;obtain⟨J,L,M,N,O,P,Q,R,C,E⟩:=QE bo.drew;obtain⟨b0,b1,y,z⟩:=QK c9.drew;refine ZT (fun w'=>cl w' (aq p 8) (.slice ae o.items.length ic)/\cl w' w.heap.size (ii k)/\cl w' (aq w.heap.size 1) (ii b)/\cl w' (aq w.heap.size 2) (ii G)/\cl w' (aq w.heap.size 3) (ii v)) 8 [[0,1,2,3,4,5],[6],[7]] ⟨C,b0,b1,y,z⟩ ?_;simp only[PI];iterate 6 refine wG ?_
   refine JB rq fun K V=>?_;go_wp2_with fail;have b9:=Rd.of_blk (n:=4) (Blk.new w8 178 #[ii k,ii b,ii G,ii v]).drew sq;rw[AK sq] at b9;have F:kz w8 (w8.alloc (.cells #[ii k,ii b,ii G,ii v] 178)).drew:=(kq.alloc _).drew;clear J L M N O P Q R C E b0 b1 y z;generalize (w8.alloc (.cells #[ii k,ii b,ii G,ii v] 178)).drew=w9 at *;obtain⟨J,L,M,N,O,P,Q,R,C,E⟩:=QE (bo.kO F);obtain⟨b0,b1,y,z⟩:=QK (c9.kO F);refine V _ _ (⟨C,b0,b1,y,z⟩) ?_
   try simp only[Act.put,PU]
   refine JB rq fun K V=>?_;refine elemItems.wp1_app (.tmp 73) (.tmp 75) rq base (.slice ae o.items.length ic) o.items.length (o.items.flatMap itc) rq (QB bp F) ⟨w8.heap.size,0,none⟩ 1 1 [.int .i64 k,.int .i64 b,.int .i64 G,.int .i64 v] rq b9 (fun u hu=>by simp at hu;rcases hu with rfl | rfl | rfl | rfl <;> rfl) Z Z (AB cb F.size) ?_;intro df af ba aa bb _;have bd:p∉(Value.slice ae o.items.length ic).ownBlock.toList:=by rw[<- a0];exact l.pI
   have ag:=(bo.kO F).keep aa bd;have cc:w.heap.size∉(Value.slice ae o.items.length ic).ownBlock.toList:=fun j=>ca _ (l.inI _ (by rw[a0];exact j)) rfl;have cd:=(c9.kO F).keep aa cc;clear J L M N O P Q R C E b0 b1 y z;obtain⟨J,L,M,N,O,P,Q,R,C,E⟩:=QE ag;obtain⟨b0,b1,y,z⟩:=QK cd;refine V _ _ (⟨C,b0,b1,y,z⟩) ?_
   try simp only[Act.put,PU]
   refine VB ?_;have f8:=ag.frozen 8;obtain⟨a2,a3,rfl,_⟩:=XB ba;go_wp2_with fail;go_ret2;have bf:=ag.set 8 (.slice a2 (o.items.length+1) a3);have ah:Keep [p] af (af.setCell (aq p 8) (.slice a2 (o.items.length+1) a3)):=kq.sc p 8;simp at bf
   have bg:=KA ba ah (fun x f j=>by
    simp at j;rw[j] at f;rcases bb with e | e
    . rw[e] at f;exact bd (uq f)
    rw[e] at f;simp at f;have:=ag.lt;have:=bo.lt;have:=F.size;omega)
   rw[show o.items.flatMap itc++[.int .i64 k,.int .i64 b,.int .i64 G,.int .i64 v]=(o.items++[(⟨k,b,G,v⟩:PItem)]).flatMap itc by simp[itc]] at bg;have au:kz w7 w9:=ar.tO F;have dg:=KA (KA (QB ct au) aa (fun x f j=>own_ne (QB ct au) (QB bp F) (by decide) f (uq j))) ah (fun x f j=>cs x (uq f) j);have dh:(s++[((Value.slice ac 64 uc),bs)]).length=s.length+1:=sq
   have ce:=l.setRows (w':=af.setCell (aq p 8) (.slice a2 (o.items.length+1) a3)) (I':=.slice a2 (o.items.length+1) a3) (B':=.slice a8 (s.length+1) a9) (ls':=s++[((Value.slice ac 64 uc),bs)]) (o.items++[⟨k,b,G,v⟩]) (o.blocks++[bs])
    bf (by rw[AE];exact bg) (by rw[dh,Bf];exact dg) (fun q r=>KA (KA (QB (cu q r) au) aa (fun x f j=>own_ne (QB (cu q r) au) (QB bp F) (by decide) f (uq j))) ah (fun x f j=>by
     simp at j;rw[j] at f;rcases AD.1 r with r | r
     . exact l.pQ r (uq f)
     simp at r;rw[r] at f
     have h1:=cv p (uq f);have h2:=U.lt;omega)) (by simp[l.snd])
   have bh:Keep a7 H (af.setCell (aq p 8) (.slice a2 (o.items.length+1) a3)):=((bm.tO au).trans aa (fun x f=>.inl (l.inI x (by rw[a0];exact f)))).trans ah (fun x f=>by simp at f;subst f;exact .inl l.inP)
   have bi:Grow H a7 (p :: ((Value.slice a2 (o.items.length+1) a3).ownBlock.toList++((Value.slice a8 (s.length+1) a9).ownBlock.toList++(s++[((Value.slice ac 64 uc),bs)]).flatMap (fun q=>q.1.ownBlock.toList)))):=fun x f=>by
    simp only[AL,AD,Bs] at f;rcases f with rfl | f | f | ⟨q,r,f⟩
    . exact .inl l.inP
    . rcases bb with e | e
      . rw[e] at f;exact .inl (l.inI x (by rw[a0];exact f))
      rw[e] at f;simp at f;subst f;exact .inr (AB bm.size (by have:=au.size;omega))
    . exact d8 x f
    rcases r with r | r
    . exact .inl (l.inQ r x f)
    simp at r;subst r;exact .inr (cv x f)
   have a6:=T.setWri ⟨_,_,_,ce⟩ bh bi T.pos;refine⟨fs+s.length,rfl,bu,_,bv,bw,bx,_,a6,⟨o,by rw[ad];exact az,by rw[hl];rfl,?_⟩,an.trans bh (fun x f=>(ai x f).imp (fun h=>by simp[h]) (fun h=>AB S.size h)),bz.keep S,(ai.keep S).trans an.size bi⟩;rw[hl,AJ rfl,<- ZA bk,ZA da,<- ZA db,<- ZA dc];rfl
 have cf:PItem.loaded ⟨k,b,G,v⟩=false:=uq hl
 have ad:JM ⟨k,b,G,v⟩=0:=by unfold JM;rw[AF hl]
 rw[ad] at hr;rw[ad,Nat.mul_zero] at hb;rw[ad,Nat.mul_zero];rw[cf] at a6;have aw:=fun a5 (hk:kz w a5)=>KAq (h.kO hk) ho cg Z ha ch ci hr;rw[h.off] at am;obtain⟨ax,ab⟩:=ex (w.alloc (.cells #[ii k,ii b,ii G,ii v] 178));have bj:kz w ax:=by rw[ab];exact kq.alloc _
 rw[<- ab] at a4;have cy:=a4.lt;obtain⟨b0,b1,y,z⟩:=QK a4
 have br:∀ {a5},kz w a5->cl a5 p (pq d):=fun hk=>by
  obtain⟨I,cz,ls,hw⟩:=h.wri;exact(QE (hw.blk.kO hk)).1
 go_enter func105,ntmps105;go_wp2_with fail;rw[<- ab]
 go_wp2_with (first
  | (go_at_call 212
     refine(a6 _).mono ?_;clear a6 b0 b1 y z;rintro e w1 ⟨rfl,ay⟩
     obtain⟨b0,b1,y,z⟩:=QK (a4.kO ay))
  | (go_at_call 236
     refine(av _).mono ?_;clear av b0 b1 y z;rintro e w2 ⟨rfl,Y⟩;replace Y:=ay.tO Y;have S:=bj.tO Y;have bt:=br S
     obtain⟨b0,b1,y,z⟩:=QK (a4.kO Y))
  | (go_at_call 134
     refine(am _ S).mono ?_;clear am
     rintro e w' ⟨rfl,rfl⟩)
  | (go_at_call 237
     refine(aw _ S).mono ?_;clear aw;rintro e H ⟨rfl,bu,a7,bv,bw,bx,o,T,az,b2,bz,ai⟩))
 have b3:∀ x∈Fd++(Ft++Fw),x<w.heap.size:=fun x f=>by
  simp only[AD] at f;rcases f with f | f | f
  . exact h.disk.lt x f
  . exact h.tab.lt x f
  exact h.wri.lt x f
 have an:Keep (Fd++(Ft++Fw)) w H:=S.zero.trans b2 (fun x f=>.inl f);have aj:=(a4.kO Y).keep b2 (fun j=>CQ _ (b3 _ j));obtain⟨d1,ck,s,l⟩:=T.wri;have ao:=az.few ho;obtain⟨ae,ic,a0,_⟩:=XB l.its;obtain⟨b4,bc,ak,_⟩:=XB l.bls;have U:=l.blk;have bq:=l.its;rw[a0,ak] at U;clear b0 b1 y z bt
 have ca:∀ x∈a7,x≠w.heap.size:=fun x f e=>by
  rcases ai x f with b8 | b8
  . have:=b3 x (by simp[b8]);omega
  have:ax.heap.size=w.heap.size+1:=by rw[ab];simp
  have:=Y.size;omega
 have cb:base<=H.heap.size:=T.le;have de:o.items.length<=6:=ao.1;rw[a0] at bq;obtain⟨J,L,M,N,O,P,Q,R,C,E⟩:=QE U.drew;obtain⟨b0,b1,y,z⟩:=QK aj.drew;refine ZT (fun w'=>cl w' (aq p 8) (.slice ae o.items.length ic)/\cl w' w.heap.size (ii k)/\cl w' (aq w.heap.size 1) (ii b)/\cl w' (aq w.heap.size 2) (ii G)/\cl w' (aq w.heap.size 3) (ii v)) 8 [[0,1,2,3,4,5],[6],[7]] ⟨C,b0,b1,y,z⟩ ?_;simp only[PI];iterate 6 refine wG ?_
 refine JB rq fun K V=>?_;go_wp2_with fail;have b9:=Rd.of_blk (n:=4) (Blk.new H 178 #[ii k,ii b,ii G,ii v]).drew sq;rw[AK sq] at b9;have F:kz H (H.alloc (.cells #[ii k,ii b,ii G,ii v] 178)).drew:=(kq.alloc _).drew;clear J L M N O P Q R C E b0 b1 y z;generalize (H.alloc (.cells #[ii k,ii b,ii G,ii v] 178)).drew=w9 at *;obtain⟨J,L,M,N,O,P,Q,R,C,E⟩:=QE (U.kO F);obtain⟨b0,b1,y,z⟩:=QK (aj.kO F);refine V _ _ (⟨C,b0,b1,y,z⟩) ?_
 try simp only[Act.put,PU]
 refine JB rq fun K V=>?_;refine elemItems.wp1_app (.tmp 73) (.tmp 75) rq base (.slice ae o.items.length ic) o.items.length (o.items.flatMap itc) rq (QB bq F) ⟨H.heap.size,0,none⟩ 1 1 [.int .i64 k,.int .i64 b,.int .i64 G,.int .i64 v] rq b9 (fun u hu=>by simp at hu;rcases hu with rfl | rfl | rfl | rfl <;> rfl) Z Z (AB cb F.size) ?_;intro df af ba aa bb _;have bd:p∉(Value.slice ae o.items.length ic).ownBlock.toList:=by rw[<- a0];exact l.pI
 have ag:=(U.kO F).keep aa bd;have cc:w.heap.size∉(Value.slice ae o.items.length ic).ownBlock.toList:=fun j=>ca _ (l.inI _ (by rw[a0];exact j)) rfl;have cd:=(aj.kO F).keep aa cc;clear J L M N O P Q R C E b0 b1 y z;obtain⟨J,L,M,N,O,P,Q,R,C,E⟩:=QE ag;obtain⟨b0,b1,y,z⟩:=QK cd;refine V _ _ (⟨C,b0,b1,y,z⟩) ?_
 try simp only[Act.put,PU]
 refine VB ?_;have f8:=ag.frozen 8;obtain⟨a2,a3,rfl,_⟩:=XB ba;go_wp2_with fail;go_ret2;have bf:=ag.set 8 (.slice a2 (o.items.length+1) a3);have ah:Keep [p] af (af.setCell (aq p 8) (.slice a2 (o.items.length+1) a3)):=kq.sc p 8;simp at bf
 have bg:=KA ba ah (fun x f j=>by
  simp at j;rw[j] at f;rcases bb with e | e
  . rw[e] at f;exact bd (uq f)
  rw[e] at f;simp at f;have:=ag.lt;have:=U.lt;have:=F.size;omega)
 rw[show o.items.flatMap itc++[.int .i64 k,.int .i64 b,.int .i64 G,.int .i64 v]=(o.items++[(⟨k,b,G,v⟩:PItem)]).flatMap itc by simp[itc]] at bg;have bl:=KA (KA (QB l.bls F) aa (fun x f j=>own_ne (QB l.bls F) (QB bq F) (by decide) f (uq j))) ah (fun x f j=>by simp at j;rw[j] at f;exact l.pB (uq f))
 have ce:=l.setRows (w':=af.setCell (aq p 8) (.slice a2 (o.items.length+1) a3)) (I':=.slice a2 (o.items.length+1) a3) (B':=.slice b4 s.length bc) (ls':=s) (o.items++[⟨k,b,G,v⟩]) o.blocks
  bf (by rw[AE];exact bg) (by rw[<- ak];exact bl) (fun q r=>KA (KA (QB (l.dat q r) F) aa (fun x f j=>own_ne (QB (l.dat q r) F) (QB bq F) (by decide) f (uq j))) ah (fun x f j=>by
   simp at j;rw[j] at f;exact l.pQ r (uq f))) l.snd
 have bh:Keep a7 H (af.setCell (aq p 8) (.slice a2 (o.items.length+1) a3)):=((F.zero).trans aa (fun x f=>.inl (l.inI x (by rw[a0];exact f)))).trans ah (fun x f=>by simp at f;subst f;exact .inl l.inP)
 have bi:Grow H a7 (p :: ((Value.slice a2 (o.items.length+1) a3).ownBlock.toList++((Value.slice b4 s.length bc).ownBlock.toList++s.flatMap (fun q=>q.1.ownBlock.toList)))):=fun x f=>by
  simp only[AL,AD,Bs] at f;rcases f with rfl | f | f | ⟨q,r,f⟩
  . exact .inl l.inP
  . rcases bb with e | e
    . rw[e] at f;exact .inl (l.inI x (by rw[a0];exact f))
    rw[e] at f;simp at f;subst f;exact .inr F.size
  . exact .inl (l.inB x (by rw[ak];exact f))
  exact .inl (l.inQ r x f)
 have a6:=T.setWri ⟨_,_,_,ce⟩ bh bi T.pos;refine⟨0,rfl,bu,_,bv,bw,bx,_,a6,⟨o,by rw[ad];exact az,by rw[cf];rfl,by rw[cf];rfl⟩,an.trans bh (fun x f=>(ai x f).imp (fun h=>by simp[h]) (fun h=>AB S.size h)),bz.keep S,(ai.keep S).trans an.size bi⟩
def Vk (us:List (Nat×Nat)) (spare:Bool):Prop:=(spare=false/\YB us<=2)\/XC us=8
theorem ZBR (h:TableIs w base t g L V F us lv) :
 cr 79 #[pq t,ii (-1)] w (.bool false):=by
 obtain⟨l,a,v,b,rfl,rfl,c,d,e⟩:=h.forms;obtain⟨f,i,j⟩:=h.cells;go_enter func79,ntmps79
 go_wp2
 go_ret;exact⟨rfl,kq⟩
theorem QAz (h:TableIs w base t g L V F us lv) :
 cr 399 #[pq t,ii (-1)] w (.bool false):=by
 have a:=ZBR h;go_enter func399,ntmps399;go_wp2_with (refine a.mono ?_;clear a;rintro e w1 ⟨rfl,b⟩);go_ret;exact⟨rfl,b⟩
theorem XAj (l c v o:Nat) (h:TableIs w base t g (.slice (some l) 8 c) (.slice (some v) 8 o) F us lv) (d:XC us=8) :
 cr 397 #[.slice (some l) 8 c,.func (.func 398) #[] #[]] w (ii (-1)):=by
 have f:=h.ulen
 have q:∀ (a j:Nat) W,cr 398 #[.agg #[ii a,ii j]] W (.bool (decide (a=0))):=fun a j W=>by
  go_enter func398,ntmps398
  go_wp2
  go_ret;exact⟨JF (by rw[Bh];simp),kq.alloc _⟩
 have r:=ZB f;have s:=ZB d;clear f d;go_enter func397,ntmps397
 go_wp2
 go_loopw [5,8] (fun _ i wr=>∃ m:Nat,m<=8/\i=.int .i64 m/\kz w wr) (fun _ i _=>8-(intOf i).toNat)
 case atStart=>exact⟨0,AP _,rfl,kq⟩
 obtain⟨m,A,rfl,b⟩:=hrel;by_cases k:m<8
 . have B:m<us.length:=by rw[ZA r];exact k
   obtain⟨C,D⟩:=(h.kO b).use m k
   have y:us[m].1≠0:=by
    have:=DP (p:=fun u:Nat×Nat=>u.1 == 0) (xs:=us) (i:=m) (by have:=ZA s;unfold XC at this;omega);simpa using this
   have n:=q us[m].1 us[m].2;rw[AU y] at n;go_wp2_with (refine(n _).mono ?_;rintro e w1 ⟨rfl,z⟩);go_roundw;case rel=>exact⟨m+1,Z,by go_num,b.tO z⟩
   case measure=>simp[intOf];omega
 obtain rfl:m=8:=Z
 go_wp2
 go_ret;exact⟨rfl,b⟩
theorem YBM (h:TableAt w base t g F us lv) (a:Vk us spare) :
 cr 347 #[pq t,.bool spare] w (.tuple #[zz,.bool false]):=by
 have b:=Ys h;obtain⟨L,V,h⟩:=h;obtain⟨l,k,v,n,rfl,rfl,z,A,B⟩:=h.forms;have C:=h.ulen;obtain⟨D,E,G⟩:=h.cells;cases spare
 . have H:((YB us:Nat):Int)<=2:=by
    rcases a with⟨_,a⟩ | a
    . omega
    have:YB us=0:=by
     unfold YB;rw[DJ];intro u o;obtain⟨m,I,rfl⟩:=List.getElem_of_mem o;have:=DP (p:=fun u:Nat×Nat=>u.1 == 0) (xs:=us) (i:=m) (by unfold XC at a;omega);simpa using this
    omega
   clear a;generalize YB us=q at *;go_enter func347,ntmps347;go_wp2_with (refine b.mono ?_;rintro e w1 ⟨rfl,r⟩);go_ret2;exact⟨rfl,r⟩
 have c:XC us=8:=by
  rcases a with⟨a,_⟩ | a
  . cases a
  exact a
 have d:=XAj l k v n h c;have f:=fun W (s:kz w W)=>QAz (h.kO s);clear a c b;go_enter func347,ntmps347
 go_wp2_with (first
  | (go_at_call 397;refine d.mono ?_;clear d;rintro e J ⟨rfl,j⟩)
  | (go_at_call 399;refine(f _ j).mono ?_;clear f;rintro e K ⟨rfl,y⟩))
 go_ret2;exact⟨rfl,j.tO y⟩
theorem ZAq (h:LogIs w base d g t p Fd Ft Fw B D us lv W) (J:W.Ok) (m:Nat) (hm:m<=1)
 (s:¬ KO W.pos.off (W.items.length+1) (W.blocks.length+m)) (S:¬ KO (QT W) 1 m) (T:Vk us spare) :
 cr 237 #[pq p,m,.bool spare] w (ii 6):=by
 have C:=fun a (q:kz w a)=>YBM (h.kO q).tab T;clear T;have a4:=h;obtain⟨I,a5,ls,E⟩:=h.wri;obtain⟨K,L,rfl,_⟩:=XB E.its;obtain⟨M,N,rfl,_⟩:=XB E.bls;have u:=E.blk;have O:=E.len;have a0:W.blocks.length<=6:=by rw[J.many];exact AB (YK _) J.few
 have a1:=J.few;have a2:=h.pos.2.1;have U:=h.geom;have V:W.items.length=0->W.items=[]:=Aw;have X:W.items=[]->W.items.length=0:=fun e=>by rw[e];rfl
 obtain⟨n,F⟩:=ex W.items.length;obtain⟨k,G⟩:=ex W.blocks.length;obtain⟨o,v⟩:=ex W.pos.off;obtain⟨r,H⟩:=ex (QT W)
 have Y:(n=0/\r=o)\/(0<n/\r=YC o k):=by
  rw[H,F,v,G];unfold QT;by_cases P:W.items.length=0
  . exact .inl ⟨P,by rw[AJ (V P)]⟩
  exact .inr ⟨Z,by rw[AF (fun e=>P (X e))]⟩
 have a3:r<=100:=by rcases Y with⟨_,e⟩ | ⟨_,e⟩ <;> rw[e] <;> first | omega | (unfold YC;omega)
 rw[<- H] at S;rw[<- F] at u a1 s;rw[<- G] at O a0 s;rw[O,<- v] at u;rw[<- v] at a2 s;have y:=Zc (g:=g) (B:=B) u.drew sq (U.kO kq.drew) o (n+1) (k+m) Z Z Z;rw[AU (show ¬ (n+1<=6/\YC o (k+m)<24) from s),show ((n+1:Nat):Int)=(n:Int)+1 from Z,show ((k+m:Nat):Int)=(k:Int)+(m:Int) from Z] at y;have z:=fun a (q:kz w a)=>Zc (u.kO q) sq (U.kO q) r 1 m a3 Z Z;have Q:=fun a=>Za o k Z Z a;rw[AU (show ¬ (1<=6/\YC r m<24) from S)] at z
 have A:∀ {a},kz w a->cl a (aq p 2) (pq t)/\cl a (aq p 4) (ii o)/\cl a (aq p 8) (.slice K n L)/\cl a (aq p 9) (.slice M k N):=fun q=>by
  obtain⟨a6,a7,l,a8,f,c5,c6,c7,i,j⟩:=QE (u.kO q);exact⟨l,f,i,j⟩
 obtain⟨l,f,i,j⟩:=A kq.drew;have a9:=ZB v;have aa:=ZB F;have ab:=ZB G;have ac:=ZB H;clear v F G O s V X H;rcases Y with⟨rfl,rfl⟩ | ⟨ad,rfl⟩
 . clear Q
   go_enter func237,ntmps237;go_wp2_with fail;refine ZT (fun w'=>cl w' (aq p 4) (ii r)/\cl w' (aq p 8) (.slice K (0:Nat) L)/\cl w' (aq p 9) (.slice M k N)) 19 [[0,1,2,3,4,5,6,7,8,9,10,11,12,13,14,15,16,17,18]] ⟨f,i,j⟩ ?_;simp only[PI];iterate 19 refine wG ?_
   refine VB ?_;clear l f i j
   go_wp2_with (first
    | (go_at_call 346
       refine y.mono ?_;clear y;rintro e w2 ⟨rfl,b⟩;replace b:=(Keep.refl [] w).drew.tO b
       obtain⟨l,f,i,j⟩:=A b)
    | (go_at_call 346
       refine(z _ b).mono ?_;clear z;rintro e w3 ⟨rfl,c⟩;replace c:=b.tO c
       obtain⟨l,f,i,j⟩:=A c)
    | (go_at_call 347
       refine(C _ c).mono ?_;clear C;rintro e w4 ⟨rfl,R⟩))
   go_ret;exact⟨rfl,c.tO R⟩
 have ae:(0:Int)<(n:Nat):=Z
 go_enter func237,ntmps237;go_wp2_with fail;refine ZT (fun w'=>cl w' (aq p 4) (ii o)/\cl w' (aq p 8) (.slice K n L)/\cl w' (aq p 9) (.slice M k N)) 19 [[0,1,2,3,4,5,6,7,8,9,10,11,12,13,14,15,16,17,18]] ⟨f,i,j⟩ ?_;simp only[PI];iterate 19 refine wG ?_
 refine VB ?_;clear l f i j
 go_wp2_with (first
  | (go_at_call 346
     refine y.mono ?_;clear y;rintro e w2 ⟨rfl,b⟩;replace b:=(Keep.refl [] w).drew.tO b
     obtain⟨l,f,i,j⟩:=A b)
  | (go_at_call 333
     refine(Q _).mono ?_;clear Q
     rintro e w' ⟨rfl,rfl⟩)
  | (go_at_call 346
     refine(z _ b).mono ?_;clear z;rintro e w3 ⟨rfl,c⟩;replace c:=b.tO c
     obtain⟨l,f,i,j⟩:=A c)
  | (go_at_call 347
     refine(C _ c).mono ?_;clear C;rintro e w4 ⟨rfl,R⟩))
 go_ret;exact⟨rfl,c.tO R⟩
def lenOf:Value->Nat
 | .slice _ n _=>n
 | _=>0
theorem Qx (j:Nat) (x:Value) (b:RowAt w base r v bs a) (c:Blk w N ty cs) (d:ty≠400) (e:ty≠5) :
 RowAt (w.setCell (aq N j) x) base r v bs a/\Blk (w.setCell (aq N j) x) N ty (cs.setIfInBounds j x)/\Keep [N] w (w.setCell (aq N j) x):=
 ⟨⟨b.blk.far (p:=⟨N,j,none⟩) (b.blk.ne_ c (Ne.symm d)) x,own_set b.own (fun f=>own_blk_ne b.own c (Ne.symm e) (uq f)) x,b.base,b.le,b.few⟩,c.set j x,(Keep.refl [N] _).sc N j⟩
theorem Zj (c:RowAt w base r v bs a) (d:Keep [r] w w') (b:Blk w N ty cs) (f:ty≠400):Blk w' N ty cs:=
 b.keep d (by simpa using fun e=>(c.blk.ne_ b (Ne.symm f)) e.symm)
theorem ZBO (is:List PItem) (k:Nat) (a:k<is.length):YQ is=fields ((is.take k).flatMap itF++(itF is[k]++(is.drop (k+1)).flatMap itF)):=by
 unfold YQ
 conv=>lhs;rw[<- CZ k is,Bt a]
 rw[BM,BE]
theorem XAg (is:List PItem):widths (is.flatMap itF)=7*is.length:=by
 rw[<- length_itemB,YQ,length_fields]
theorem QBQ {n:Nat} (c:Nat) (is:List PItem) (V:Rd w A n (bys (YQ is))) (y:∀ i∈is,i.May) (h1:1<=is.length) (h6:is.length<=6) :
 Calls prog 450 #[.slice A n c] w fun e w'=>∃ g R,e=.returned (.tuple #[.slice (some (aq g 0)) is.length R,zz])/\w'.ownsRow w.heap.size 178 4 (.slice (some (aq g 0)) is.length R) is.length (is.flatMap itc)/\kz w w':=by
 obtain⟨m,X⟩:=ex is.length;have hn:n=7*m:=by have:=V.1;simp at this;omega
 have ab:=QZ c (YQ is) V Z;have ac:=fun W g R (hr:Rd W (some (aq g 0)) (m*4) (is.flatMap itc))=>XAY g m R is hr X.symm y Z;rw[<- X];have a2:=ZB X;have ao:=ZB ac;have bj:=ZB hn;have ap:=ZB y;have bk:1<=m:=Z
 have bl:m<=6:=Z
 clear X ac hn y h1 h6;go_enter func450,ntmps450;go_wp2_with (refine ab.mono ?_;clear ab;rintro e w1 ⟨r,v,rfl,B,ad⟩);go_loopw [2] (fun L wr=>∃ k:Nat,k<=m/\lenOf L=k/\wr.ownsRow w.heap.size 178 4 L k ((is.take k).flatMap itc)/\RowAt wr w.heap.size r v (YQ is) (7*k)/\kz w wr) (fun L _=>m-lenOf L)
 case atStart=>exact⟨0,AP _,rfl,AZ _ _ _ _,B,ad⟩
 clear B ad;obtain⟨k,hk,ar,C,B,F⟩:=hrel;obtain⟨bm,Y,rfl,bn,_⟩:=XB C;clear ar;have G:=Zi B;have S:(YQ is).length=7*m:=by rw[length_itemB,ZA a2]
 rw[S] at G;by_cases au:k<m
 . have a3:k<is.length:=by rw[<- ZA a2];exact au
   have D:=ZBO is k a3;have T:7*k=widths ((is.take k).flatMap itF):=by rw[XAg,BH];omega
   have U:(is.take (k+1)).flatMap itc=(is.take k).flatMap itc++itc is[k]:=by rw[AO a3,BM,DR]
   have av:=(ZA ap _ (AN a3)).bounds;generalize is[k]=it at *;obtain⟨f,l,o,j⟩:=it;obtain⟨b1,b2,b3,b4⟩:=av;simp only at b1 b2 b3 b4;generalize (is.take k).flatMap itF=lf at *;generalize (is.drop (k+1)).flatMap itF=rf at *;simp only[itF,As,Am] at D;obtain⟨bs,a4⟩:=ex (YQ is);rw[<- a4] at D S B ⊢;have aw:=fun W (h:RowAt W w.heap.size r v bs (7*k+0))=>YAR (k:=1) (n:=f) (t:=[]) lf ((1,l) :: (1,o) :: (4,j) :: rf) h (by rw[D];simp) (by rw[T];simp[Xb,widths]) Z Z;have ax:=fun W (h:RowAt W w.heap.size r v bs (7*k+1))=>YAR (k:=1) (n:=l) (t:=[]) (lf++[(1,f)]) ((1,o) :: (4,j) :: rf) h (by rw[D];simp) (by rw[T];simp[Xb,widths]) Z Z;have ay:=fun W (h:RowAt W w.heap.size r v bs (7*k+2))=>YAR (k:=1) (n:=o) (t:=[]) (lf++[(1,f),(1,l)]) ((4,j) :: rf) h (by rw[D];simp) (by rw[T];simp[Xb,widths]) Z Z;have az:=fun W (h:RowAt W w.heap.size r v bs (7*k+3))=>YAR (k:=4) (n:=j) (t:=[]) (lf++[(1,f),(1,l),(1,o)]) (rf) h (by rw[D];simp) (by rw[T];simp[Xb,widths]) Z Z;have bo:=ZB D;have bp:=ZB a4;have b0:=ZB U;have bq:=ZB S;have a5:((k:Nat):Int)<6:=Z
   have br:(0:Int)<((7*m:Nat):Int)-((7*k:Nat):Int):=Z
   clear D a4 U S T;have ae:Blk (wr.drew.alloc (.cells #[zz,zz,zz,zz] 178)) wr.heap.size 178 #[zz,zz,zz,zz]:=Blk.new wr.drew _ _;have a6:kz wr (wr.drew.alloc (.cells #[zz,zz,zz,zz] 178)):=kq.drew.alloc _;have a7:=B.kO a6;have bt:=F.tO a6;have bu:w.heap.size<=wr.heap.size:=F.size;go_wp2_with (refine G.mono ?_;clear G;rintro e w' ⟨rfl,rfl⟩);have b5:Keep [r] wr (wr.drew.alloc (.cells #[zz,zz,zz,zz] 178)):=a6.zero;have s:=aw _ a7
   go_wp2_with (
    (refine s.mono ?_)
    clear s;rintro e w2 ⟨rfl,z,p⟩;have a:=Zj a7 p ae (by decide);have q:=a.frozen 0;obtain⟨K,M,N,O⟩:=JE a;have P:=a.lt;have d:=Qx 0 (.int .i64 (f:Nat)) z a (by decide) (by decide);have a8:=d.1;have af:Blk (w2.setCell (aq wr.heap.size 0) (.int .i64 (f:Nat))) wr.heap.size 178 #[f,zz,zz,zz]:=d.2.1;have b6:=(b5.trans p (fun x b=>.inl b)).trans d.2.2 (fun x b=>.inr (by simp at b;exact Ar b.symm));clear d)
   clear q K M N O P z a p a7 ae;have s:=ax _ a8
   go_wp2_with (
    (refine s.mono ?_)
    clear s;rintro e w3 ⟨rfl,z,p⟩;have a:=Zj a8 p af (by decide);have q:=a.frozen 1;obtain⟨K,M,N,O⟩:=JE a;have P:=a.lt;have d:=Qx 1 (.int .i64 (l:Nat)) z a (by decide) (by decide);have a9:=d.1;have ag:Blk (w3.setCell (aq wr.heap.size 1) (.int .i64 (l:Nat))) wr.heap.size 178 #[f,l,zz,zz]:=d.2.1;have b7:=(b6.trans p (fun x b=>.inl b)).trans d.2.2 (fun x b=>.inr (by simp at b;exact Ar b.symm));clear d)
   clear q K M N O P z a p a8 af;have s:=ay _ a9
   go_wp2_with (
    (refine s.mono ?_)
    clear s;rintro e w4 ⟨rfl,z,p⟩;have a:=Zj a9 p ag (by decide);have q:=a.frozen 2;obtain⟨K,M,N,O⟩:=JE a;have P:=a.lt;have d:=Qx 2 (.int .i64 (o:Nat)) z a (by decide) (by decide);have ah:=d.1;have b8:Blk (w4.setCell (aq wr.heap.size 2) (.int .i64 (o:Nat))) wr.heap.size 178 #[f,l,o,zz]:=d.2.1;have b9:=(b7.trans p (fun x b=>.inl b)).trans d.2.2 (fun x b=>.inr (by simp at b;exact Ar b.symm));clear d)
   clear q K M N O P z a p a9 ag;have s:=az _ ah
   go_wp2_with (first
    | (refine s.mono ?_
       clear s;rintro e Q ⟨rfl,z,p⟩;have a:=Zj ah p b8 (by decide);have q:=a.frozen 3;obtain⟨K,M,N,O⟩:=JE a;have P:=a.lt;have d:=Qx 3 (.int .i64 (j:Nat)) z a (by decide) (by decide);have ba:=d.1;have ai:Blk (Q.setCell (aq wr.heap.size 3) (.int .i64 (j:Nat))) wr.heap.size 178 #[f,l,o,j]:=d.2.1;have aj:=(b9.trans p (fun x b=>.inl b)).trans d.2.2 (fun x b=>.inr (by simp at b;exact Ar b.symm));obtain⟨y0,y1,y2,y3⟩:=JE ai;have bb:=KA C aj (fun g hg y=>by simp at y;subst y;exact own_blk_ne C B.blk (by decide) hg);have bv:=ai.lt
       have bc:Rd ((Q.setCell (aq wr.heap.size 3) (.int .i64 (j:Nat))).alloc (.cells #[ii f,ii l,ii o,ii j] 178)) (some Q.heap.size) (1*4) (itc ⟨f,l,o,j⟩):=by
        have:=Rd.of_blk (n:=4) (Blk.new (Q.setCell (aq wr.heap.size 3) (.int .i64 (j:Nat))) 178 #[ii f,ii l,ii o,ii j]) sq;simpa [itc] using this
       have a0:=QB bb ((Keep.refl [] _).alloc (.cells #[ii f,ii l,ii o,ii j] 178));have bw:w.heap.size<=r:=B.base
       have ak:kz w (Q.setCell (aq wr.heap.size 3) (.int .i64 (j:Nat))):=F.trans aj iq)
    | (at_builtin;refine elemItems.wp_app rfl _ _ rfl w.heap.size _ k _ rfl a0 ⟨Q.heap.size,0,none⟩ 1 1 (itc ⟨f,l,o,j⟩) rfl bc (fun u E=>by simp only[itc,AL,DA,DZ] at E;rcases E with rfl | rfl | rfl | rfl <;> rfl) Z Z (by have:=(ak.alloc (.cells #[ii f,ii l,ii o,ii j] 178)).size;exact this) ?_))
   intro bx w7 al aa _ _;obtain⟨bz,c2,bd,_⟩:=XB al;subst bd;have bf:kz w w7:=(ak.alloc (.cells #[ii f,ii l,ii o,ii j] 178)).trans aa (fun x b=>.inr (own_mem a0 b).1);have H:=ba.kO ((Keep.refl [] _).alloc (.cells #[ii f,ii l,ii o,ii j] 178))
   have bg:RowAt w7 w.heap.size r v bs (7*(k+1)):=by
    have h1:RowAt w7 w.heap.size r v bs (7*k+3+4):=⟨H.blk.keep aa (fun y=>own_blk_ne a0 H.blk (by decide) (uq y)),KA H.own aa (fun g hg y=>own_ne H.own a0 (by decide) hg (uq y)),H.base,H.le,H.few⟩
    rwa [show 7*k+3+4=7*(k+1) from Z] at h1
   go_wp2
   go_roundw;case rel=>exact⟨k+1,Z,rfl,by rw[ZA b0];exact al,bg,bf⟩
   case measure=>simp[lenOf];omega
 clear S
 obtain rfl:k=m:=Z
 have U:(is.take k).flatMap itc=is.flatMap itc:=by rw[AK (by rw[<- ZA a2];exact AG _)]
 rw[U] at C;obtain⟨g,R,am,_⟩:=YD C Z;simp only[Value.slice.injEq,true_and] at am;obtain⟨rfl,rfl⟩:=am;have a5:((k:Nat):Int)<=6:=Z
 have d:((7*k:Nat):Int)-((7*k:Nat):Int)=0:=Z
 rw[d] at G;have an:∀ W,kz wr W->Calls prog 387 #[.slice (some (aq g 0)) k Y] W _:=fun W bh=>(ZA ao) W g Y (Rd.of_ownN (QB C bh));have a1:=ZB an;clear an U;by_cases c4:k<6
 . have c5:((k:Nat):Int)<6:=Z
   clear a5
   go_wp2_with (first
    | (go_at_call 259;refine G.mono ?_;clear G;rintro e w' ⟨rfl,rfl⟩)
    | (go_at_call 387
       refine(ZA a1 _ kq.drew).mono ?_;clear a1;rintro e w3 ⟨u,rfl,E,I⟩;obtain⟨bi,uc,rfl,_⟩:=XB E;have J:=QN uc c (YQ is) (YQ is) (Rd.of_own E) (V.keep ((F.drew).tO I))
       rw[AH rfl] at J)
    | (go_at_call 261;refine J.mono ?_;clear J;rintro e w' ⟨rfl,rfl⟩))
   go_ret2;exact⟨g,Y,rfl,QB (QB C kq.drew) I,F.drew.tO I⟩
 obtain rfl:k=6:=Z
 clear a5 G
 go_wp2_with (first
  | (go_at_call 387
     refine(ZA a1 _ kq).mono ?_;clear a1;rintro e w3 ⟨u,rfl,E,I⟩;obtain⟨bi,uc,rfl,_⟩:=XB E;have J:=QN uc c (YQ is) (YQ is) (Rd.of_own E) (V.keep (F.tO I))
     rw[AH rfl] at J)
  | (go_at_call 261;refine J.mono ?_;clear J;rintro e w' ⟨rfl,rfl⟩))
 go_ret2;exact⟨g,Y,rfl,QB C I,F.tO I⟩
/- Lemmas of the proof, with their conditions. -/
import Derived.Test.YtfedaknhecbehaaGreatL20
namespace Go.Proofs.YtfedaknhecbehaaGreat
open Tryz Go.RowKit Go.Shelf
variable {B k j a base d g t p m r N:Nat} {D D':PDisk} {us us':List (Nat×Nat)} {W W':PW} {lv lv' Fd Ft Fw:List Nat} {i:PItem} {bs:List UInt8} {w w':World} {spare:Bool} {A:Option Addr} {v:Value} {ty:TypeId} {cs:Array Value}
set_option linter.all false
set_option maxHeartbeats 4000000
set_option maxRecDepth 20000
theorem Kr (i:PItem) (bs:List UInt8) (k:W.pos.seg<8) (g:(us.getD W.pos.seg (0,0)).1=1) (j:KP W.pos.off (W.items.length+1) (W.blocks.length+ZM i)) :
 (∀ x,Lies B us W x->Lies B us ⟨W.pos,W.items++[i],if i.loaded then W.blocks++[bs] else W.blocks⟩ x/\JK B D ⟨W.pos,W.items++[i],if i.loaded then W.blocks++[bs] else W.blocks⟩ x=JK B D W x/\(i.loaded=true->x≠VC B W.pos.seg+XD W.pos.off 0+W.blocks.length)) /\
 (i.loaded=true->Lies B us ⟨W.pos,W.items++[i],if i.loaded then W.blocks++[bs] else W.blocks⟩ (VC B W.pos.seg+XD W.pos.off 0+W.blocks.length) /\
   JK B D ⟨W.pos,W.items++[i],if i.loaded then W.blocks++[bs] else W.blocks⟩ (VC B W.pos.seg+XD W.pos.off 0+W.blocks.length)=bs):=by
 by_cases d:i.loaded=true
 . simp only[d,B8]
   have c:=j.2;unfold ZM at c;rw[AP d] at c
   have f:∀ x,Lies B us W x->x≠VC B W.pos.seg+XD W.pos.off 0+W.blocks.length:=by
    rintro x a rfl;rcases a.here (JAA Z (by unfold XD at c ⊢;omega)) with b | b <;> (try unfold XD at b) <;> omega
   refine⟨fun x a=>⟨⟨a.lo,a.hi,a.used,fun e=>?_⟩,?_,fun _=>f x a⟩,fun _=>⟨⟨?_,?_,?_,fun _=>.inr ⟨by dsimp only;omega,sq⟩⟩,?_⟩⟩
   . simp only at e ⊢
     rcases a.here e with b | b
     . exact .inl b
     exact .inr ⟨b.1,by simp;omega⟩
   . have:=f x a
     unfold JK;simp only[AE,Al];by_cases h:VC B W.pos.seg+XD W.pos.off 0<=x/\x<VC B W.pos.seg+XD W.pos.off 0+W.blocks.length
     . rw[AP h,AP Z,AB,AB,B5 Z]
     rw[AL h,AL Z]
   . unfold VC XD;omega
   . unfold VC;unfold XD at c ⊢;omega
   . rw[JAA (s:=W.pos.seg) Z (by unfold XD at c ⊢;omega),g];decide
   unfold JK;simp only[AE,Al];rw[AP Z,AB,Bc Z];rw[show VC B W.pos.seg+XD W.pos.off 0+W.blocks.length-(VC B W.pos.seg+XD W.pos.off 0)-W.blocks.length=0 from Z];rfl
 simp only[Bool.not_eq_true] at d;simp only[d,Aj,Bt,false_implies,DX];exact fun x a=>⟨⟨a.lo,a.hi,a.used,a.here⟩,rfl⟩
theorem Added.readsG (a0:Added B D us lv W i bs D' us' lv' W' a) (h:Cap D us W k j) (a1:KO us W (ZM i))
 (z:D.now.length=D.n*64) (A:D.n=198+4*pgs B) :
 D'.now.length=D'.n*64/\D'.n=D.n/\D'.faults=D.faults/\(∀ x,Lies B us W x->Lies B us' W' x/\JK B D' W' x=JK B D W x/\(i.loaded=true->x≠a))/\(i.loaded=true->Lies B us' W' a/\JK B D' W' a=bs):=by
 obtain⟨d,a2,rfl,ha⟩:=a0;have af:ZM i<=1:=by unfold ZM;split <;> omega
 have a3:=h.ul;have v:=h.seg;have l:i.loaded=true->a=VC B d.pos.seg+XD d.pos.off 0+d.blocks.length:=fun b=>by rw[ha,AP b]
 rcases a2 with⟨m,rfl,rfl,rfl,rfl⟩ | ⟨L,m,g,rfl⟩ | ⟨L,m,rfl,a4,ag,M,g,N⟩
 . obtain⟨n,o⟩:=Kr (D:=D') i bs v h.opn m
   refine⟨z,rfl,rfl,fun x f=>?_,fun b=>by rw[l b];exact o b⟩;obtain⟨p,r,t⟩:=n x f;exact⟨p,r,fun b=>by rw[l b];exact t b⟩
 . obtain⟨e1,O,P,Q,e5,R,e7,C,w,a5,a6⟩:=h.emitted g
   obtain⟨n,o⟩:=g.reads h.ok z A v h.off;obtain⟨_,_,_,_,_,_,_,_,_,_,_,y,_,_,E⟩:=g.facts h.ok
   have F:KP d.pos.off (d.items.length+1) (d.blocks.length+ZM i):=by
    rw[C,w];refine⟨sq,?_⟩;have:=m.2;simp only[Au,A6];unfold XD at this ⊢;omega
   obtain⟨G,H⟩:=Kr (B:=B) (D:=D') i bs Z R F;refine⟨n,y,E,fun x f=>?_,fun b=>by rw[l b];exact H b⟩;obtain⟨p,r⟩:=o x f;obtain⟨t,I,J⟩:=G x p;exact⟨t,I.trans r,fun b=>by rw[l b];exact J b⟩
 have ah:=a1 L m;obtain⟨u,K⟩:=YW us Z
 have S:W.pos.seg≠YC us:=by
  intro e;have:=h.opn;rw[e,K] at this;omega
 have T:Cap D (VE us (YC us) 1) W (k+11) j:=by
  obtain⟨c,s,h1,h2,h3⟩:=h.cs;refine⟨h.ok,uq a3,v,h.off,?_,⟨c,s+1,Z,h2,?_⟩,h.acts,h.lsn⟩
  . rw[VH _ _ _ _ u,AL S];exact h.opn
  have:=JQ us (YC us) 1 u;rw[K] at this;simp at this;omega
 obtain⟨e1,O,P,Q,e5,R,e7,C,w,a5,a6⟩:=T.emitted g;obtain⟨n,o⟩:=g.reads T.ok z A v h.off;obtain⟨_,_,_,_,_,_,_,_,_,_,_,y,_,_,E⟩:=g.facts h.ok;have ai:22<=Qa W:=by unfold KP XD at m;omega
 have a7:=N;obtain⟨t1,t2⟩:=N.reads n (y.trans A) Z Q Z Z Z O w;obtain⟨rs,hd,aj,u1,u2,u3,U,a8,V⟩:=a7;have X:=YN a4 (VC B M.pos.seg+M.pos.off) rs 1
 have F:KP d.pos.off (d.items.length+1) (d.blocks.length+ZM i):=by
  rw[V];simp only[C,w];unfold KP XD;simp;omega
 have a9:d.pos.seg=YC us:=by rw[V]
 have aa:(us'.getD d.pos.seg (0,0)).1=1:=by
  rw[a9,a8,VH _ _ _ _ (by simp;omega),P,AL (fun e=>S e.symm),VI];rcases g.facts h.ok with⟨_,_,_,_,_,_,_,_,_,ab,_⟩;rcases ab with rfl | rfl
  . rw[VH _ _ _ _ u,AP rfl]
  rw[VI,VH _ _ _ _ u,AP rfl]
 obtain⟨G,H⟩:=Kr (B:=B) (D:=D') i bs Z aa F;have ac:D'.n=D.n:=by rw[U];exact X.1.trans y
 have ad:D'.faults=D.faults:=by rw[U];exact X.2.2.2.2.1.trans E
 refine⟨t1,ac,ad,fun x f=>?_,fun b=>by rw[l b];exact H b⟩;have Y:(x-(6+4*pgs B)) / 24≠YC us:=fun e=>f.used (by rw[e];exact K);have ae:Lies B (VE us (YC us) 1) W x:=⟨f.lo,f.hi,by rw[VH _ _ _ _ u,AL Y];exact f.used,f.here⟩;obtain⟨p,r⟩:=o x ae;obtain⟨t,I⟩:=t2 x p Y;obtain⟨J,q6,q7⟩:=G x t;exact⟨J,q6.trans (I.trans r),fun b=>by rw[l b];exact q7 b⟩
theorem Added.reads (b:Added B D us lv W i bs D' us' lv' W' a) (h:Cap D us W k j) (c:k<=50)
 (d:D.now.length=D.n*64) (e:D.n=198+4*pgs B) :
 D'.now.length=D'.n*64/\D'.n=D.n/\D'.faults=D.faults/\(∀ x,Lies B us W x->Lies B us' W' x/\JK B D' W' x=JK B D W x/\(i.loaded=true->x≠a))/\(i.loaded=true->Lies B us' W' a/\JK B D' W' a=bs):=
 b.readsG h (h.frees c (by unfold ZM;split <;> omega)) d e
theorem LogIs.ul (h:LogIs w base d g t p Fd Ft Fw B D us lv W):us.length=8:=by obtain⟨L,V,a⟩:=h.tab;exact a.ulen
def RoomOk (us:List (Nat×Nat)) (W:PW) (m:Nat) (spare:Bool):Prop:=
 ¬ KP W.pos.off (W.items.length+1) (W.blocks.length+m)->¬ KP (Qa W) 1 m->YC us<8/\(us.getD (YC us) (0,0)).1=0/\(spare=false->2<YD us)
theorem JBH (h:LogIs w base d g t p Fd Ft Fw B D us lv W) (i:W.Ok) (m:Nat) (J:m<=1) (spare:Bool)
 (a:KP W.pos.off (W.items.length+1) (W.blocks.length+m)) :
 cr 237 #[pq p,m,.bool spare] w zz:=by
 obtain⟨I,K,ls,c⟩:=h.wri;obtain⟨u,v,rfl,_⟩:=ZB c.its;obtain⟨BA,y,rfl,_⟩:=ZB c.bls;have f:=c.blk;have j:=c.len;have z:W.blocks.length<=6:=by rw[i.many];exact AA (ZL _) i.few
 have A:=i.few;have C:=h.pos.2.1;obtain⟨n,o⟩:=ex W.items.length;obtain⟨b,r⟩:=ex W.blocks.length;obtain⟨k,l⟩:=ex W.pos.off;rw[<- o] at f A a;rw[<- r] at j z a;rw[j,<- l] at f;rw[<- l] at C a;have s:=Ke (g:=g) (B:=B) f.drew sq (h.geom.kO kq.drew) k (n+1) (b+m) Z Z Z;rw[AJ (show n+1<=6/\XD k (b+m)<24 from a),show ((n+1:Nat):Int)=(n:Int)+1 from Z,show ((b+m:Nat):Int)=(b:Int)+(m:Int) from Z] at s;obtain⟨L,M,N,O,E,P,Q,R,F,G⟩:=ZE f.drew;clear l o r j a;go_enter func237,ntmps237;go_wp2_with fail;refine ZT (fun w'=>cl w' (aq p 4) (ii k)/\cl w' (aq p 8) (.slice u n v)/\cl w' (aq p 9) (.slice BA b y)) 19 [[0,1,2,3,4,5,6,7,8,9,10,11,12,13,14,15,16,17,18]] ⟨E,F,G⟩ ?_;simp only[PI];iterate 19 refine wG ?_
 refine KB ?_;go_wp2_with (apply s.mono;rintro e S ⟨rfl,H⟩);go_ret;exact⟨rfl,kq.drew.tO H⟩
theorem YBM (h:LogIs w base d g t p Fd Ft Fw B D us lv W) (F:W.Ok) (a9:W.pos.off<=23) (hm:m<=1) (spare:Bool) (ha:D.acts<=8000000) (a4:W.pos.lsn<2147483647)
 (v:¬ KP W.pos.off (W.items.length+1) (W.blocks.length+m)) (hf:KP (Qa W) 1 m) :
 Calls prog 237 #[pq p,m,.bool spare] w fun e w'=>e=.returned zz/\∃ r Fw' D' us' W',LogIs w' base d g t p r Ft Fw' B D' us' lv W'/\Emitted B D us W D' us' W'/\Keep (Fd++(Ft++Fw)) w w'/\Grow w Fd r/\Grow w Fw Fw':=by
 have G:=fun b (s:kz w b)=>JAJ (h.kO s) F ha a4;obtain⟨I,aa,ls,H⟩:=h.wri;obtain⟨M,N,rfl,_⟩:=ZB H.its;obtain⟨BA,O,rfl,_⟩:=ZB H.bls;have y:=H.blk;have P:=H.len;have a5:W.blocks.length<=6:=by rw[F.many];exact AA (ZL _) F.few
 have a6:=F.few;have a7:=h.pos.2.1;have a0:=h.geom;have a1:W.items.length=0->W.items=[]:=Aw;have a2:W.items=[]->W.items.length=0:=fun e=>by rw[e];rfl
 obtain⟨n,J⟩:=ex W.items.length;obtain⟨k,K⟩:=ex W.blocks.length;obtain⟨o,z⟩:=ex W.pos.off;obtain⟨u,L⟩:=ex (Qa W)
 have a3:(n=0/\u=o)\/(0<n/\u=XD o k):=by
  rw[L,J,z,K];unfold Qa;by_cases Q:W.items.length=0
  . exact .inl ⟨Q,by rw[AP (a1 Q)]⟩
  exact .inr ⟨Z,by rw[AL (fun e=>Q (a2 e))]⟩
 have a8:u<=100:=by rcases a3 with⟨_,e⟩ | ⟨_,e⟩ <;> rw[e] <;> first | omega | (unfold XD;omega)
 rw[<- L] at hf;rw[<- J] at y a6 v;rw[<- K] at P a5 v;rw[P,<- z] at y;rw[<- z] at a7 v;have A:=Ke (g:=g) (B:=B) y.drew sq (a0.kO kq.drew) o (n+1) (k+m) Z Z Z;rw[AX (show ¬ (n+1<=6/\XD o (k+m)<24) from v),show ((n+1:Nat):Int)=(n:Int)+1 from Z,show ((k+m:Nat):Int)=(k:Int)+(m:Int) from Z] at A;have C:=fun b (s:kz w b)=>Ke (y.kO s) sq (a0.kO s) u 1 m a8 Z Z;have R:=fun b=>Xe o k Z Z b;rw[AJ (show 1<=6/\XD u m<24 from hf)] at C
 have E:∀ {b},kz w b->cl b (aq p 2) (pq t)/\cl b (aq p 4) (ii o)/\cl b (aq p 8) (.slice M n N)/\cl b (aq p 9) (.slice BA k O):=fun s=>by
  obtain⟨ab,ac,l,ad,f,c5,c6,c7,i,j⟩:=ZE (y.kO s);exact⟨l,f,i,j⟩
 obtain⟨l,f,i,j⟩:=E kq.drew;have ae:=JB z;have af:=JB J;have ag:=JB K;have ah:=JB L;clear z J K P v a1 a2 L;rcases a3 with⟨rfl,rfl⟩ | ⟨ai,rfl⟩
 . clear R
   go_enter func237,ntmps237;go_wp2_with fail;refine ZT (fun w'=>cl w' (aq p 4) (ii u)/\cl w' (aq p 8) (.slice M (0:Nat) N)/\cl w' (aq p 9) (.slice BA k O)) 19 [[0,1,2,3,4,5,6,7,8,9,10,11,12,13,14,15,16,17,18]] ⟨f,i,j⟩ ?_;simp only[PI];iterate 19 refine wG ?_
   refine KB ?_;clear l f i j
   go_wp2_with (first
    | (go_at_call 346
       refine A.mono ?_;clear A;rintro e w2 ⟨rfl,c⟩;replace c:=(Keep.refl [] w).drew.tO c
       obtain⟨l,f,i,j⟩:=E c)
    | (go_at_call 346
       refine(C _ c).mono ?_;clear C;rintro e w3 ⟨rfl,a⟩;replace a:=c.tO a
       obtain⟨l,f,i,j⟩:=E a)
    | (go_at_call 94
       refine(G _ a).mono ?_;clear G;rintro e w4 ⟨rfl,r,Fw',D',us',W',S,T,U,V,X⟩))
   go_ret;exact⟨rfl,r,Fw',D',us',W',S,T,a.zero.trans U (fun x Y=>.inl Y),V.keep a,X.keep a⟩
 have aj:(0:Int)<(n:Nat):=Z;go_enter func237,ntmps237;go_wp2_with fail;refine ZT (fun w'=>cl w' (aq p 4) (ii o)/\cl w' (aq p 8) (.slice M n N)/\cl w' (aq p 9) (.slice BA k O)) 19 [[0,1,2,3,4,5,6,7,8,9,10,11,12,13,14,15,16,17,18]] ⟨f,i,j⟩ ?_;simp only[PI];iterate 19 refine wG ?_
 refine KB ?_;clear l f i j
 go_wp2_with (first
  | (go_at_call 346
     refine A.mono ?_;clear A;rintro e w2 ⟨rfl,c⟩;replace c:=(Keep.refl [] w).drew.tO c
     obtain⟨l,f,i,j⟩:=E c)
  | (go_at_call 333
     refine(R _).mono ?_;clear R
     rintro e w' ⟨rfl,rfl⟩)
  | (go_at_call 346
     refine(C _ c).mono ?_;clear C;rintro e w3 ⟨rfl,a⟩;replace a:=c.tO a
     obtain⟨l,f,i,j⟩:=E a)
  | (go_at_call 94
     refine(G _ a).mono ?_;clear G;rintro e w4 ⟨rfl,r,Fw',D',us',W',S,T,U,V,X⟩))
 go_ret;exact⟨rfl,r,Fw',D',us',W',S,T,a.zero.trans U (fun x Y=>.inl Y),V.keep a,X.keep a⟩
theorem XAv (h:LogIs w base d g t p Fd Ft Fw B D us lv W) (C:W.Ok) (am:W.pos.off<=23) (m:Nat) (hm:m<=1) (spare:Bool) (ha:D.acts<=7000000) (b0:W.pos.lsn<2147483646)
 (J:¬ KP W.pos.off (W.items.length+1) (W.blocks.length+m)) (hf:¬ KP (Qa W) 1 m) (U:(us.getD W.pos.seg (0,0)).1=1) (an:YC us<8) (ao:(us.getD (YC us) (0,0)).1=0) (ap:spare=false->2<YD us) :
 Calls prog 237 #[pq p,m,.bool spare] w fun e w'=>e=.returned zz/\∃ K Fw' c f b D' us' W',LogIs w' base d g t p K Ft Fw' B D' us' (lv.set (YC us) 0) W'/\Emitted B D (VE us (YC us) 1) W c f b/\Turned B c f b (YC us) D' us' W'/\Keep (Fd++(Ft++Fw)) w w'/\Grow w Fd K/\Grow w Fw Fw':=by
 have ar:=h.ul;have V:=fun b (E:kz w b)=>VBS (h.kO E).tab spare ap an;have au:22<=Qa W:=by unfold KP XD at hf;omega
 have X:=fun b (h1:LogIs b base d g t p Fd Ft Fw B D (VE us (YC us) 1) (lv.set (YC us) 0) W)=>JAJ h1 C Z Z;have af:=fun c f b (a2:Emitted B D (VE us (YC us) 1) W c f b)=>a2.facts C
 have Y:∀ r F z c f b,LogIs r base d g t p F Ft z B c f (lv.set (YC us) 0) b->Emitted B D (VE us (YC us) 1) W c f b ->
  Calls prog 348 #[pq p,(YC us:Nat)] r fun e w'=>e=.returned zz/\∃ K D' us' W',LogIs w' base d g t p K Ft z B D' us' (lv.set (YC us) 0) W'/\Turned B c f b (YC us) D' us' W'/\Keep (F++(Ft++[p])) r w'/\Grow r F K:=by
  intro r F z c f b h1 a2;obtain⟨f1,f2,f3,f4,f5,f6,f7,f8,f9,av,b1⟩:=af _ _ _ a2
  have b2:b.pos.off=Qa W:=by
   by_cases s:W.items=[]
   . rw[f7 s];unfold Qa;rw[AP s]
   exact f8 s
  have b3:Qa W<=23:=by
   unfold Qa
   split
   . exact am
   rename_i s;exact C.fit s
  have b4:=h.pos.1;have ag:W.pos.seg≠YC us:=fun e=>by rw[e,ao] at U;cases U
  refine KBl h1 (YC us) Z Z Z Z Z ?_;rw[f3];rcases av with rfl | rfl
  . rw[VH _ _ _ _ Z,AL ag];exact U
  rw[VI,VH _ _ _ _ Z,AL ag];exact U
 have ah:=h;clear af au ar;obtain⟨I,b5,ls,G⟩:=h.wri;obtain⟨a3,ic,rfl,_⟩:=ZB G.its;obtain⟨BA,bc,rfl,_⟩:=ZB G.bls;have L:=G.blk;have a4:=G.len;have aw:W.blocks.length<=6:=by rw[C.many];exact AA (ZL _) C.few
 have ax:=C.few;have ay:=h.pos.2.1;have ai:=h.geom;have aj:W.items.length=0->W.items=[]:=Aw;have ak:W.items=[]->W.items.length=0:=fun e=>by rw[e];rfl
 obtain⟨n,hn⟩:=ex W.items.length;obtain⟨u,a0⟩:=ex W.blocks.length;obtain⟨A,M⟩:=ex W.pos.off;obtain⟨H,a1⟩:=ex (Qa W)
 have al:(n=0/\H=A)\/(0<n/\H=XD A u):=by
  rw[a1,hn,M,a0];unfold Qa;by_cases s:W.items.length=0
  . exact .inl ⟨s,by rw[AP (aj s)]⟩
  exact .inr ⟨Z,by rw[AL (fun e=>s (ak e))]⟩
 have az:H<=100:=by rcases al with⟨_,e⟩ | ⟨_,e⟩ <;> rw[e] <;> first | omega | (unfold XD;omega)
 rw[<- a1] at hf;rw[<- hn] at L ax J;rw[<- a0] at a4 aw J;rw[a4,<- M] at L;rw[<- M] at ay J;have N:=Ke (g:=g) (B:=B) L.drew sq (ai.kO kq.drew) A (n+1) (u+m) Z Z Z;rw[AX (show ¬ (n+1<=6/\XD A (u+m)<24) from J),show ((n+1:Nat):Int)=(n:Int)+1 from Z,show ((u+m:Nat):Int)=(u:Int)+(m:Int) from Z] at N;have O:=fun b (E:kz w b)=>Ke (L.kO E) sq (ai.kO E) H 1 m az Z Z;have a5:=fun b=>Xe A u Z Z b;rw[AX (show ¬ (1<=6/\XD H m<24) from hf)] at O
 have P:∀ {b},kz w b->cl b (aq p 2) (pq t)/\cl b (aq p 4) (ii A)/\cl b (aq p 8) (.slice a3 n ic)/\cl b (aq p 9) (.slice BA u bc):=fun E=>by
  obtain⟨b6,b7,y,b8,k,c5,c6,c7,l,o⟩:=ZE (L.kO E);exact⟨y,k,l,o⟩
 obtain⟨y,k,l,o⟩:=P kq.drew;have b9:=JB M;have ba:=JB hn;have bb:=JB a0;have bd:=JB a1;clear M hn a0 a4 J aj ak a1;rcases al with⟨rfl,rfl⟩ | ⟨bf,rfl⟩
 . clear a5
   go_enter func237,ntmps237;go_wp2_with fail;refine ZT (fun w'=>cl w' (aq p 4) (ii H)/\cl w' (aq p 8) (.slice a3 (0:Nat) ic)/\cl w' (aq p 9) (.slice BA u bc)) 19 [[0,1,2,3,4,5,6,7,8,9,10,11,12,13,14,15,16,17,18]] ⟨k,l,o⟩ ?_;simp only[PI];iterate 19 refine wG ?_
   refine KB ?_;clear y k l o
   go_wp2_with (first
    | (go_at_call 346
       refine N.mono ?_;clear N;rintro e w2 ⟨rfl,j⟩;replace j:=(Keep.refl [] w).drew.tO j
       obtain⟨y,k,l,o⟩:=P j)
    | (go_at_call 346
       refine(O _ j).mono ?_;clear O;rintro e w3 ⟨rfl,i⟩;replace i:=j.tO i
       obtain⟨y,k,l,o⟩:=P i)
    | (go_at_call 347
       refine(V _ i).mono ?_;clear V;rintro e w4 ⟨rfl,a6,Q⟩
       have h4:=(ah.kO i).setTab a6 Q)
    | (go_at_call 94
       refine(X _ h4).mono ?_;clear X
       rintro e w5 ⟨rfl,F,z,c,f,b,h5,R,a7,S,a8⟩)
    | (go_at_call 348
       refine(Y _ _ _ _ _ _ h5 R).mono ?_;clear Y;rintro e w6 ⟨rfl,a9,aa,ab,r,h6,ac,ad,ae⟩))
   go_ret;have v:Keep (Fd++(Ft++Fw)) w w4:=i.zero.trans Q (fun x a=>.inl (by simp[a]));have T:=v.trans a7 (fun x a=>.inl a);refine⟨rfl,a9,z,c,f,b,aa,ab,r,h6,R,ac,T.trans ad ?_,(S.keep v).trans T.size ae,a8.keep v⟩;intro x a;simp only[AD,Ak] at a ⊢;rcases a with a | a | rfl
   . rcases S x a with a | a
     . exact .inl (.inl a)
     exact .inr (AA v.size a)
   . exact .inl (.inr (.inl a))
   exact .inl (.inr (.inr G.inP))
 have bg:(0:Int)<(n:Nat):=Z;go_enter func237,ntmps237;go_wp2_with fail;refine ZT (fun w'=>cl w' (aq p 4) (ii A)/\cl w' (aq p 8) (.slice a3 n ic)/\cl w' (aq p 9) (.slice BA u bc)) 19 [[0,1,2,3,4,5,6,7,8,9,10,11,12,13,14,15,16,17,18]] ⟨k,l,o⟩ ?_;simp only[PI];iterate 19 refine wG ?_
 refine KB ?_;clear y k l o
 go_wp2_with (first
  | (go_at_call 346
     refine N.mono ?_;clear N;rintro e w2 ⟨rfl,j⟩;replace j:=(Keep.refl [] w).drew.tO j
     obtain⟨y,k,l,o⟩:=P j)
  | (go_at_call 333
     refine(a5 _).mono ?_;clear a5
     rintro e w' ⟨rfl,rfl⟩)
  | (go_at_call 346
     refine(O _ j).mono ?_;clear O;rintro e w3 ⟨rfl,i⟩;replace i:=j.tO i
     obtain⟨y,k,l,o⟩:=P i)
  | (go_at_call 347
     refine(V _ i).mono ?_;clear V;rintro e w4 ⟨rfl,a6,Q⟩
     have h4:=(ah.kO i).setTab a6 Q)
  | (go_at_call 94
     refine(X _ h4).mono ?_;clear X
     rintro e w5 ⟨rfl,F,z,c,f,b,h5,R,a7,S,a8⟩)
  | (go_at_call 348
     refine(Y _ _ _ _ _ _ h5 R).mono ?_;clear Y;rintro e w6 ⟨rfl,a9,aa,ab,r,h6,ac,ad,ae⟩))
 go_ret;have v:Keep (Fd++(Ft++Fw)) w w4:=i.zero.trans Q (fun x a=>.inl (by simp[a]));have T:=v.trans a7 (fun x a=>.inl a);refine⟨rfl,a9,z,c,f,b,aa,ab,r,h6,R,ac,T.trans ad ?_,(S.keep v).trans T.size ae,a8.keep v⟩;intro x a;simp only[AD,Ak] at a ⊢;rcases a with a | a | rfl
 . rcases S x a with a | a
   . exact .inl (.inl a)
   exact .inr (AA v.size a)
 . exact .inl (.inr (.inl a))
 exact .inl (.inr (.inr G.inP))
theorem elemItems:ElemN prog 255 178 (.agg #[zz,zz,zz,zz]) 4 32:=ElemN.of underlying255 (by kernel_rfl) rfl Z
theorem VBC (h:LogIs w base d g t p Fd Ft Fw B D us lv W) (f:W.Ok) (r:W.pos.off<=23) (i:m<=1) (u:D.acts<=7000000) (v:W.pos.lsn<2147483646)
 (y:(us.getD W.pos.seg (0,0)).1=1) (z:RoomOk us W m spare) :
 Calls prog 237 #[pq p,m,.bool spare] w fun e w'=>e=.returned zz/\∃ b Fw' D' us' lv' W',LogIs w' base d g t p b Ft Fw' B D' us' lv' W'/\Roomed B D us lv W m D' us' lv' W'/\Keep (Fd++(Ft++Fw)) w w'/\Grow w Fd b/\Grow w Fw Fw':=by
 by_cases a:KP W.pos.off (W.items.length+1) (W.blocks.length+m)
 . apply (JBH h f m i spare a).mono
   rintro e w' ⟨rfl,s⟩;exact⟨rfl,Fd,Fw,D,us,lv,W,h.kO s,.inl ⟨a,rfl,rfl,rfl,rfl⟩,s.zero,Grow.refl _ _,Grow.refl _ _⟩
 by_cases c:KP (Qa W) 1 m
 . apply (YBM h f r i spare Z Z a c).mono
   rintro e w' ⟨rfl,b,Fw',D',us',W',j,k,l,n,o⟩;exact⟨rfl,b,Fw',D',us',lv,W',j,.inr (.inl ⟨a,c,k,rfl⟩),l,n,o⟩
 obtain⟨A,C,E⟩:=z a c;apply (XAv h f r m i spare u v a c y A C E).mono;rintro e w' ⟨rfl,b,Fw',F,G,H,D',us',W',j,k,l,n,o,I⟩;exact⟨rfl,b,Fw',D',us',_,W',j,.inr (.inr ⟨a,c,rfl,F,G,H,k,l⟩),n,o,I⟩
theorem Roomed.few (h:Roomed B D us lv W m D' us' lv' W') (a:W.Ok):W'.items.length<=6/\W'.blocks.length<=6:=by
 have e:W.blocks.length<=6:=by rw[a.many];exact AA (ZL _) a.few
 rcases h with⟨_,_,_,_,rfl⟩ | ⟨_,_,b,_⟩ | ⟨_,_,_,g,i,j,b,f⟩
 . exact⟨a.few,e⟩
 . obtain⟨c,d,_⟩:=b.facts a
   rw[c,d];simp
 obtain⟨c,d,_⟩:=b.facts a;obtain⟨_,_,_,_,_,_,_,_,rfl⟩:=f;simp only[c,d];simp
theorem YK {t:TypeId} {a b c d:Value} (h:Blk w g t #[a,b,c,d]):cl w g a/\cl w (aq g 1) b/\cl w (aq g 2) c/\cl w (aq g 3) d:=
 ⟨uq (h.cell 0),uq (h.cell 1),uq (h.cell 2),uq (h.cell 3)⟩
theorem WriterIs.setRows {I B I' B':Value} {ls ls':List (Value×List UInt8)} {F:List Nat} (h:WriterIs w base p d g t I B ls F W) (a:List PItem) (b:List (List UInt8))
 (c:Blk w' p 273 #[pq d,pq g,pq t,ii W.pos.seg,ii W.pos.off,ii W.pos.lsn,ii W.pos.prev,ii W.pos.mount,I',B'])
 (hi:w'.ownsRow base 178 4 I' a.length (a.flatMap itc)) (e:w'.ownsRow base 66 1 B' ls'.length (ls'.map (·.1))) (f:∀ q∈ls',w'.ownsRow base 5 1 q.1 64 (bys q.2)) (i:ls'.map (·.2)=b) :
 WriterIs w' base p d g t I' B' ls' (p :: (I'.ownBlock.toList++(B'.ownBlock.toList++ls'.flatMap (fun q=>q.1.ownBlock.toList)))) ⟨W.pos,a,b⟩:=
 ⟨c,hi,e,f,i,rfl,h.base⟩
theorem QAG (h:LogIs w base d g t p Fd Ft Fw B D us lv W) (ho:W.Ok) (cf:W.pos.off<=23) (ha:D.acts<=7000000) (cg:W.pos.lsn<2147483646)
 (ch:(us.getD W.pos.seg (0,0)).1=1) (hi:i.May) (h7:i.k≠7) (hr:RoomOk us W (ZM i) spare) (c:Nat) (bs:List UInt8) (hb:Rd w A (64*ZM i) (bys bs)) (cv:∀ a,A=some a->a.block∉Fd++(Ft++Fw)) :
 Calls prog 105 #[pq p,.agg (itc i).toArray,.slice A (64*ZM i) c,.bool spare] w fun e w'=>∃ a:Nat,e=.returned (.tuple #[(a:Nat),zz])/\∃ ci Fw' D' us' lv' W',
  LogIs w' base d g t p ci Ft Fw' B D' us' lv' W'/\Added B D us lv W i bs D' us' lv' W' a/\Keep (Fd++(Ft++Fw)) w w'/\Grow w Fd ci/\Grow w Fw Fw':=by
 obtain⟨k,b,G,v⟩:=i;have cw:=hi.bounds;simp only at cw h7;have a6:=fun W=>Jk hi W;have av:=fun W=>Yp hi W;simp only[itc] at a6 av ⊢;have a4:=Blk.new w 178 #[ii k,ii b,ii G,ii v];have am:=fun a5 (hk:kz w a5)=>Ku a5 base d Fd D (h.kO hk).disk;have dh:¬ ((k:Nat):Int)=7:=Z;by_cases hl:PItem.loaded ⟨k,b,G,v⟩=true
 . have ad:ZM ⟨k,b,G,v⟩=1:=by unfold ZM;rw[AP hl]
   rw[ad] at hr;rw[ad,DY] at hb;rw[ad,DY];rw[hl] at a6;have aw:=fun a5 (hk:kz w a5)=>VBC (h.kO hk) ho cf Z ha cg ch hr;rw[h.off] at am;obtain⟨ax,ab⟩:=ex (w.alloc (.cells #[ii k,ii b,ii G,ii v] 178));have bi:kz w ax:=by rw[ab];exact kq.alloc _
   rw[<- ab] at a4;have cx:=a4.lt;obtain⟨b0,b1,y,z⟩:=YK a4
   have bq:∀ {a5},kz w a5->cl a5 p (pq d):=fun hk=>by
    obtain⟨I,cy,ls,hw⟩:=h.wri;exact(ZE (hw.blk.kO hk)).1
   go_enter func105,ntmps105;go_wp2_with fail;rw[<- ab]
   go_wp2_with (first
    | (go_at_call 212
       refine(a6 _).mono ?_;clear a6 b0 b1 y z;rintro e w1 ⟨rfl,ay⟩
       obtain⟨b0,b1,y,z⟩:=YK (a4.kO ay))
    | (go_at_call 236
       refine(av _).mono ?_;clear av b0 b1 y z;rintro e w2 ⟨rfl,Y⟩;replace Y:=ay.tO Y;have S:=bi.tO Y;have br:=bq S
       obtain⟨b0,b1,y,z⟩:=YK (a4.kO Y))
    | (go_at_call 134
       refine(am _ S).mono ?_;clear am
       rintro e w' ⟨rfl,rfl⟩)
    | (go_at_call 237
       refine(aw _ S).mono ?_;clear aw;rintro e H ⟨rfl,bt,a7,bu,bv,bw,o,T,az,b2,bx,ai⟩))
   have b3:∀ x∈Fd++(Ft++Fw),x<w.heap.size:=fun x f=>by
    simp only[AD] at f;rcases f with f | f | f
    . exact h.disk.lt x f
    . exact h.tab.lt x f
    exact h.wri.lt x f
   have an:Keep (Fd++(Ft++Fw)) w H:=S.zero.trans b2 (fun x f=>.inl f);have aj:=(a4.kO Y).keep b2 (fun j=>Cc _ (b3 _ j));have cz:Rd H A 64 (bys bs):=hb.keepIf an cv;obtain⟨d0,cj,s,l⟩:=T.wri;have ao:=az.few ho;obtain⟨ae,ic,a0,_⟩:=ZB l.its;obtain⟨BA,bc,ak,_⟩:=ZB l.bls;have U:=l.blk;have bj:=JB l.len;have bk:=l.bls;rw[a0,ak] at U;rw[ak] at bk;have ck:=JX c bs cz.drew Z;clear b0 b1 y z br;obtain⟨J,L,M,N,O,P,Q,R,C,E⟩:=ZE U.drew;refine ZT (fun w'=>cl w' (aq p 9) (.slice BA s.length bc)) 9 [[0,1,2,3,4,5],[6],[7],[8]] E ?_;simp only[PI];iterate 6 refine wG ?_
   refine YB rq (fun K V=>?_);go_wp2_with (refine ck.mono ?_;clear ck;rintro e w4 ⟨u,rfl,hu,d1,_⟩);have cm:kz H w4:=kq.drew.tO d1;obtain⟨ac,uc,rfl,_⟩:=ZB hu;clear J L M N O P Q R C E;obtain⟨J,L,M,N,O,P,Q,R,C,E⟩:=ZE (U.kO cm);refine V _ _ (E) ?_
   try simp only[Act.put,PU]
   refine YB rq (fun K V=>?_);go_wp2_with fail;have cn:s.length<=6:=by rw[JA bj];exact ao.2
   have cn:s.length<=6:=by rw[JA bj];exact ao.2
   have cn:s.length<=6:=by rw[JA bj];exact ao.2
   have d2:=JT w4 (Value.slice ac 64 uc) 66;have a1:kz H (w4.alloc (.cells #[Value.slice ac 64 uc] 66)):=cm.alloc _;have co:=KD hu (.cells #[Value.slice ac 64 uc] 66);generalize di:w4.alloc (.cells #[Value.slice ac 64 uc] 66)=w5 at *;generalize dj:w4.heap.size=n4 at *;clear J L M N O P Q R C E;obtain⟨J,L,M,N,O,P,Q,R,C,E⟩:=ZE (U.kO a1);refine V _ _ (E) ?_
   try simp only[Act.put,PU]
   refine YB rq (fun K V=>?_);refine elemRows.wp1_app (.tmp 53) (.tmp 56) rq base (.slice BA s.length bc) s.length (s.map (·.1)) rq (QB bk a1) (some n4) 1 1 [Value.slice ac 64 uc] rq d2 (by simp[Value.oneCell']) Z Z (AA T.le a1.size) ?_;intro dk w6 cp al bz _;rw[<- ak] at al bz;have cq:p∉cj.ownBlock.toList:=l.pB;have c2:=(U.kO a1).keep al cq;clear J L M N O P Q R C E;obtain⟨J,L,M,N,O,P,Q,R,C,E⟩:=ZE c2;refine V _ _ (E) ?_
   try simp only[Act.put,PU]
   refine KB ?_;have f9:=c2.frozen 9;obtain⟨a8,a9,rfl,_⟩:=ZB cp;go_wp2_with fail;have b4:=c2.set 9 (.slice a8 (s.length+1) a9);have ap:Keep [p] w6 (w6.setCell (aq p 9) (.slice a8 (s.length+1) a9)):=kq.sc p 9
   have cr:∀ g∈(Value.slice a8 (s.length+1) a9).ownBlock.toList,g∉[p]:=fun g X j=>by
    simp at j;subst j;rcases bz with e | e
    . rw[e] at X;exact cq X
    rw[e] at X;simp at X;subst X;have:=U.lt;have:=a1.size;omega
   have cs:=XB cp ap (fun g X=>cr g (uq X))
   have d3:∀ {q:Value} {n:Nat} {ys:List Value},H.ownsRow base 5 1 q n ys->p∉q.ownBlock.toList->(w6.setCell (aq p 9) (.slice a8 (s.length+1) a9)).ownsRow base 5 1 q n ys:=fun r hp=>
    XB (XB (QB r a1) al (fun x f j=>own_ne r l.bls (by decide) f (uq j))) ap (fun x f j=>by simp at j;subst j;exact hp (uq f))
   have d4:=XB (XB (QB l.its a1) al (fun x f j=>own_ne l.its l.bls (by decide) f (uq j))) ap (fun x f j=>by simp at j;subst j;exact l.pI (uq f));have d5:=((aj.kO a1).keep al (fun j=>own_blk_ne (QB l.bls a1) (aj.kO a1) (by decide) (uq j))).keep ap (fun j=>by simp at j;have:=U.lt;exact Blk.ne_ U aj (by decide) j.symm)
   have d6:=XB (XB (ZC co (show base<=H.drew.heap.size from T.le)) al (fun x f j=>own_ne co (QB l.bls a1) (by decide) f (uq j))) ap (fun x f j=>by
    simp at j;rw[j] at f;have h1:=(own_mem hu (g:=p) (uq f)).1;have h2:=U.lt;have:H.drew.heap.size=H.heap.size:=rfl;omega)
   simp at b4;have bl:Keep a7 H (w6.setCell (aq p 9) (.slice a8 (s.length+1) a9)):=(a1.zero.trans (al.sub (m:=a7) (fun x f=>l.inB x f)) (fun x f=>.inl f)).trans (ap.sub (m:=a7) (fun x f=>by simp at f;subst f;exact l.inP)) (fun x f=>.inl f)
   have d7:∀ g∈(Value.slice a8 (s.length+1) a9).ownBlock.toList,g∈a7\/H.heap.size<=g:=fun g X=>by
    rcases bz with e | e
    . rw[e] at X;exact .inl (l.inB g X)
    rw[e] at X;simp at X;subst X;exact .inr a1.size
   have ct:∀ q∈s++[((Value.slice ac 64 uc),bs)],(w6.setCell (aq p 9) (.slice a8 (s.length+1) a9)).ownsRow base 5 1 q.1 64 (bys q.2):=fun q r=>by
    rcases AD.1 r with r | r
    . exact d3 (l.dat q r) (l.pQ r)
    simp at r;subst r;exact d6
   have cu:∀ g∈(Value.slice ac 64 uc).ownBlock.toList,H.heap.size<=g:=fun g X=>(own_mem hu X).1;generalize w6.setCell (aq p 9) (.slice a8 (s.length+1) a9)=w7 at *;have d8:=T.geom.keep bl T.gw;have b5:=T.pos;obtain⟨c4,b6⟩:=ex o.pos.seg;obtain⟨c5,bm⟩:=ex o.pos.off;have c6:=XAU (g:=g) (B:=B) b4.drew sq c4 c5 (by rw[b6];exact b5.1) (by rw[bm];have:=b5.2.1;omega) (by simp[b6]) (by simp[bm]) (d8.kO kq.drew);have dl:=(JD T.geom.pos T.geom.few).2;have dm:c4<=7:=by rw[b6];exact b5.1
   have dn:XD c5 0<=30:=by have:=b5.2.1;unfold XD;omega
   obtain⟨fs,c7⟩:=ex (6+4*pgs B+24*c4+XD c5 0);rw[<- c7] at c6;have dp:fs<=400:=Z;have dq:IntKind.i64.wrap (((fs:Nat):Int)+(((s.length:Nat):Int)+1)-1)=((fs+s.length:Nat):Int):=by rw[AK];omega
   have d9:=JB c7;have da:=JB b6;have db:=JB bm;clear c7 b6 bm b5;clear J L M N O P Q R C E;obtain⟨J,L,M,N,O,P,Q,R,C,E⟩:=ZE b4.drew;refine ZT (fun w'=>cl w' (aq p 9) (.slice a8 (s.length+1) a9)) 7 [[0,2,3,4,5,6],[1]] E ?_;simp only[PI];iterate 6 refine wG ?_
   refine YB rq (fun K V=>?_);go_wp2_with (refine c6.mono ?_;clear c6;rintro e w8 ⟨rfl,dc⟩);have ar:kz w7 w8:=kq.drew.tO dc;clear J L M N O P Q R C E;obtain⟨J,L,M,N,O,P,Q,R,C,E⟩:=ZE (b4.kO ar);refine V _ _ (E) ?_
   try simp only[Act.put,PU]
   refine KB ?_;go_wp2_with fail;clear J L M N O P Q R C E;have bn:=b4.kO ar;have bo:=QB d4 ar;have c8:=d5.kO ar
   have c9:∀ x∈a7,x≠w.heap.size:=fun x f e=>by
    rcases ai x f with b7 | b7
    . have:=b3 x (by simp[b7]);omega
    have:=S.size;have:=bi.size;rw[ab] at this;simp at this;have:ax.heap.size=w.heap.size+1:=by rw[ab];simp
    have:=Y.size;omega
   have ca:base<=w8.heap.size:=AA T.le (AA bl.size ar.size);have dd:o.items.length<=6:=ao.1;rw[a0] at bo;obtain⟨J,L,M,N,O,P,Q,R,C,E⟩:=ZE bn.drew;obtain⟨b0,b1,y,z⟩:=YK c8.drew;refine ZT (fun w'=>cl w' (aq p 8) (.slice ae o.items.length ic)/\cl w' w.heap.size (ii k)/\cl w' (aq w.heap.size 1) (ii b)/\cl w' (aq w.heap.size 2) (ii G)/\cl w' (aq w.heap.size 3) (ii v)) 8 [[0,1,2,3,4,5],[6],[7]] ⟨C,b0,b1,y,z⟩ ?_;simp only[PI];iterate 6 refine wG ?_
   refine YB rq (fun K V=>?_);go_wp2_with fail;have b8:=Rd.of_blk (n:=4) (Blk.new w8 178 #[ii k,ii b,ii G,ii v]).drew sq;rw[AH sq] at b8;have F:kz w8 (w8.alloc (.cells #[ii k,ii b,ii G,ii v] 178)).drew:=(kq.alloc _).drew;clear J L M N O P Q R C E b0 b1 y z;generalize (w8.alloc (.cells #[ii k,ii b,ii G,ii v] 178)).drew=w9 at *;obtain⟨J,L,M,N,O,P,Q,R,C,E⟩:=ZE (bn.kO F);obtain⟨b0,b1,y,z⟩:=YK (c8.kO F);refine V _ _ (⟨C,b0,b1,y,z⟩) ?_
   try simp only[Act.put,PU]
   refine YB rq (fun K V=>?_);refine elemItems.wp1_app (.tmp 73) (.tmp 75) rq base (.slice ae o.items.length ic) o.items.length (o.items.flatMap itc) rq (QB bo F) ⟨w8.heap.size,0,none⟩ 1 1 [.int .i64 k,.int .i64 b,.int .i64 G,.int .i64 v] rq b8 (fun u hu=>by simp at hu;rcases hu with rfl | rfl | rfl | rfl <;> rfl) Z Z (AA ca F.size) ?_;intro de af b9 aa ba _;have bb:p∉(Value.slice ae o.items.length ic).ownBlock.toList:=by rw[<- a0];exact l.pI
   have ag:=(bn.kO F).keep aa bb;have cb:w.heap.size∉(Value.slice ae o.items.length ic).ownBlock.toList:=fun j=>c9 _ (l.inI _ (by rw[a0];exact j)) rfl;have cc:=(c8.kO F).keep aa cb;clear J L M N O P Q R C E b0 b1 y z;obtain⟨J,L,M,N,O,P,Q,R,C,E⟩:=ZE ag;obtain⟨b0,b1,y,z⟩:=YK cc;refine V _ _ (⟨C,b0,b1,y,z⟩) ?_
   try simp only[Act.put,PU]
   refine KB ?_;have f8:=ag.frozen 8;obtain⟨a2,a3,rfl,_⟩:=ZB b9;go_wp2_with fail;go_ret2;have bd:=ag.set 8 (.slice a2 (o.items.length+1) a3);have ah:Keep [p] af (af.setCell (aq p 8) (.slice a2 (o.items.length+1) a3)):=kq.sc p 8;simp at bd
   have bf:=XB b9 ah (fun x f j=>by
    simp at j;rw[j] at f;rcases ba with e | e
    . rw[e] at f;exact bb (uq f)
    rw[e] at f;simp at f;have:=ag.lt;have:=bn.lt;have:=F.size;omega)
   rw[show o.items.flatMap itc++[.int .i64 k,.int .i64 b,.int .i64 G,.int .i64 v]=(o.items++[(⟨k,b,G,v⟩:PItem)]).flatMap itc by simp[itc]] at bf;have au:kz w7 w9:=ar.tO F;have df:=XB (XB (QB cs au) aa (fun x f j=>own_ne (QB cs au) (QB bo F) (by decide) f (uq j))) ah (fun x f j=>cr x (uq f) j);have dg:(s++[((Value.slice ac 64 uc),bs)]).length=s.length+1:=sq
   have cd:=l.setRows (w':=af.setCell (aq p 8) (.slice a2 (o.items.length+1) a3)) (I':=.slice a2 (o.items.length+1) a3) (B':=.slice a8 (s.length+1) a9) (ls':=s++[((Value.slice ac 64 uc),bs)]) (o.items++[⟨k,b,G,v⟩]) (o.blocks++[bs])
    bd (by rw[AE];exact bf) (by rw[dg,BZ];exact df) (fun q r=>XB (XB (QB (ct q r) au) aa (fun x f j=>own_ne (QB (ct q r) au) (QB bo F) (by decide) f (uq j))) ah (fun x f j=>by
     simp at j;rw[j] at f;rcases AD.1 r with r | r
     . exact l.pQ r (uq f)
     simp at r;rw[r] at f;have h1:=cu p (uq f);have h2:=U.lt;omega)) (by simp[l.snd])
   have bg:Keep a7 H (af.setCell (aq p 8) (.slice a2 (o.items.length+1) a3)):=((bl.tO au).trans aa (fun x f=>.inl (l.inI x (by rw[a0];exact f)))).trans ah (fun x f=>by simp at f;subst f;exact .inl l.inP)
   have bh:Grow H a7 (p :: ((Value.slice a2 (o.items.length+1) a3).ownBlock.toList++((Value.slice a8 (s.length+1) a9).ownBlock.toList++(s++[((Value.slice ac 64 uc),bs)]).flatMap (fun q=>q.1.ownBlock.toList)))):=fun x f=>by
    simp only[AM,AD,Bk] at f;rcases f with rfl | f | f | ⟨q,r,f⟩
    . exact .inl l.inP
    . rcases ba with e | e
      . rw[e] at f;exact .inl (l.inI x (by rw[a0];exact f))
      rw[e] at f;simp at f;subst f;exact .inr (AA bl.size (by have:=au.size;omega))
    . exact d7 x f
    rcases r with r | r
    . exact .inl (l.inQ r x f)
    simp at r;subst r;exact .inr (cu x f)
   have a6:=T.setWri ⟨_,_,_,cd⟩ bg bh T.pos;refine⟨fs+s.length,rfl,bt,_,bu,bv,bw,_,a6,⟨o,by rw[ad];exact az,by rw[hl];rfl,?_⟩,an.trans bg (fun x f=>(ai x f).imp (fun h=>by simp[h]) (fun h=>AA S.size h)),bx.keep S,(ai.keep S).trans an.size bh⟩;rw[hl,AP rfl,<- JA bj,JA d9,<- JA da,<- JA db];rfl
 have ce:PItem.loaded ⟨k,b,G,v⟩=false:=uq hl;have ad:ZM ⟨k,b,G,v⟩=0:=by unfold ZM;rw[AL hl]
 rw[ad] at hr;rw[ad,Nat.mul_zero] at hb;rw[ad,Nat.mul_zero];rw[ce] at a6;have aw:=fun a5 (hk:kz w a5)=>VBC (h.kO hk) ho cf Z ha cg ch hr;rw[h.off] at am;obtain⟨ax,ab⟩:=ex (w.alloc (.cells #[ii k,ii b,ii G,ii v] 178));have bi:kz w ax:=by rw[ab];exact kq.alloc _
 rw[<- ab] at a4;have cx:=a4.lt;obtain⟨b0,b1,y,z⟩:=YK a4
 have bq:∀ {a5},kz w a5->cl a5 p (pq d):=fun hk=>by
  obtain⟨I,cy,ls,hw⟩:=h.wri;exact(ZE (hw.blk.kO hk)).1
 go_enter func105,ntmps105;go_wp2_with fail;rw[<- ab]
 go_wp2_with (first
  | (go_at_call 212
     refine(a6 _).mono ?_;clear a6 b0 b1 y z;rintro e w1 ⟨rfl,ay⟩
     obtain⟨b0,b1,y,z⟩:=YK (a4.kO ay))
  | (go_at_call 236
     refine(av _).mono ?_;clear av b0 b1 y z;rintro e w2 ⟨rfl,Y⟩;replace Y:=ay.tO Y;have S:=bi.tO Y;have br:=bq S
     obtain⟨b0,b1,y,z⟩:=YK (a4.kO Y))
  | (go_at_call 134
     refine(am _ S).mono ?_;clear am
     rintro e w' ⟨rfl,rfl⟩)
  | (go_at_call 237
     refine(aw _ S).mono ?_;clear aw;rintro e H ⟨rfl,bt,a7,bu,bv,bw,o,T,az,b2,bx,ai⟩))
 have b3:∀ x∈Fd++(Ft++Fw),x<w.heap.size:=fun x f=>by
  simp only[AD] at f;rcases f with f | f | f
  . exact h.disk.lt x f
  . exact h.tab.lt x f
  exact h.wri.lt x f
 have an:Keep (Fd++(Ft++Fw)) w H:=S.zero.trans b2 (fun x f=>.inl f);have aj:=(a4.kO Y).keep b2 (fun j=>Cc _ (b3 _ j));obtain⟨d0,cj,s,l⟩:=T.wri;have ao:=az.few ho;obtain⟨ae,ic,a0,_⟩:=ZB l.its;obtain⟨BA,bc,ak,_⟩:=ZB l.bls;have U:=l.blk;have bp:=l.its;rw[a0,ak] at U;clear b0 b1 y z br
 have c9:∀ x∈a7,x≠w.heap.size:=fun x f e=>by
  rcases ai x f with b7 | b7
  . have:=b3 x (by simp[b7]);omega
  have:ax.heap.size=w.heap.size+1:=by rw[ab];simp
  have:=Y.size;omega
 have ca:base<=H.heap.size:=T.le;have dd:o.items.length<=6:=ao.1;rw[a0] at bp;obtain⟨J,L,M,N,O,P,Q,R,C,E⟩:=ZE U.drew;obtain⟨b0,b1,y,z⟩:=YK aj.drew;refine ZT (fun w'=>cl w' (aq p 8) (.slice ae o.items.length ic)/\cl w' w.heap.size (ii k)/\cl w' (aq w.heap.size 1) (ii b)/\cl w' (aq w.heap.size 2) (ii G)/\cl w' (aq w.heap.size 3) (ii v)) 8 [[0,1,2,3,4,5],[6],[7]] ⟨C,b0,b1,y,z⟩ ?_;simp only[PI];iterate 6 refine wG ?_
 refine YB rq (fun K V=>?_);go_wp2_with fail;have b8:=Rd.of_blk (n:=4) (Blk.new H 178 #[ii k,ii b,ii G,ii v]).drew sq;rw[AH sq] at b8;have F:kz H (H.alloc (.cells #[ii k,ii b,ii G,ii v] 178)).drew:=(kq.alloc _).drew;clear J L M N O P Q R C E b0 b1 y z;generalize (H.alloc (.cells #[ii k,ii b,ii G,ii v] 178)).drew=w9 at *;obtain⟨J,L,M,N,O,P,Q,R,C,E⟩:=ZE (U.kO F);obtain⟨b0,b1,y,z⟩:=YK (aj.kO F);refine V _ _ (⟨C,b0,b1,y,z⟩) ?_
 try simp only[Act.put,PU]
 refine YB rq (fun K V=>?_);refine elemItems.wp1_app (.tmp 73) (.tmp 75) rq base (.slice ae o.items.length ic) o.items.length (o.items.flatMap itc) rq (QB bp F) ⟨H.heap.size,0,none⟩ 1 1 [.int .i64 k,.int .i64 b,.int .i64 G,.int .i64 v] rq b8 (fun u hu=>by simp at hu;rcases hu with rfl | rfl | rfl | rfl <;> rfl) Z Z (AA ca F.size) ?_;intro de af b9 aa ba _;have bb:p∉(Value.slice ae o.items.length ic).ownBlock.toList:=by rw[<- a0];exact l.pI
 have ag:=(U.kO F).keep aa bb;have cb:w.heap.size∉(Value.slice ae o.items.length ic).ownBlock.toList:=fun j=>c9 _ (l.inI _ (by rw[a0];exact j)) rfl;have cc:=(aj.kO F).keep aa cb;clear J L M N O P Q R C E b0 b1 y z;obtain⟨J,L,M,N,O,P,Q,R,C,E⟩:=ZE ag;obtain⟨b0,b1,y,z⟩:=YK cc;refine V _ _ (⟨C,b0,b1,y,z⟩) ?_
 try simp only[Act.put,PU]
 refine KB ?_;have f8:=ag.frozen 8;obtain⟨a2,a3,rfl,_⟩:=ZB b9;go_wp2_with fail;go_ret2;have bd:=ag.set 8 (.slice a2 (o.items.length+1) a3);have ah:Keep [p] af (af.setCell (aq p 8) (.slice a2 (o.items.length+1) a3)):=kq.sc p 8;simp at bd
 have bf:=XB b9 ah (fun x f j=>by
  simp at j;rw[j] at f;rcases ba with e | e
  . rw[e] at f;exact bb (uq f)
  rw[e] at f;simp at f;have:=ag.lt;have:=U.lt;have:=F.size;omega)
 rw[show o.items.flatMap itc++[.int .i64 k,.int .i64 b,.int .i64 G,.int .i64 v]=(o.items++[(⟨k,b,G,v⟩:PItem)]).flatMap itc by simp[itc]] at bf;have bk:=XB (XB (QB l.bls F) aa (fun x f j=>own_ne (QB l.bls F) (QB bp F) (by decide) f (uq j))) ah (fun x f j=>by simp at j;rw[j] at f;exact l.pB (uq f))
 have cd:=l.setRows (w':=af.setCell (aq p 8) (.slice a2 (o.items.length+1) a3)) (I':=.slice a2 (o.items.length+1) a3) (B':=.slice BA s.length bc) (ls':=s) (o.items++[⟨k,b,G,v⟩]) o.blocks
  bd (by rw[AE];exact bf) (by rw[<- ak];exact bk) (fun q r=>XB (XB (QB (l.dat q r) F) aa (fun x f j=>own_ne (QB (l.dat q r) F) (QB bp F) (by decide) f (uq j))) ah (fun x f j=>by
   simp at j;rw[j] at f;exact l.pQ r (uq f))) l.snd
 have bg:Keep a7 H (af.setCell (aq p 8) (.slice a2 (o.items.length+1) a3)):=((F.zero).trans aa (fun x f=>.inl (l.inI x (by rw[a0];exact f)))).trans ah (fun x f=>by simp at f;subst f;exact .inl l.inP)
 have bh:Grow H a7 (p :: ((Value.slice a2 (o.items.length+1) a3).ownBlock.toList++((Value.slice BA s.length bc).ownBlock.toList++s.flatMap (fun q=>q.1.ownBlock.toList)))):=fun x f=>by
  simp only[AM,AD,Bk] at f;rcases f with rfl | f | f | ⟨q,r,f⟩
  . exact .inl l.inP
  . rcases ba with e | e
    . rw[e] at f;exact .inl (l.inI x (by rw[a0];exact f))
    rw[e] at f;simp at f;subst f;exact .inr F.size
  . exact .inl (l.inB x (by rw[ak];exact f))
  exact .inl (l.inQ r x f)
 have a6:=T.setWri ⟨_,_,_,cd⟩ bg bh T.pos;refine⟨0,rfl,bt,_,bu,bv,bw,_,a6,⟨o,by rw[ad];exact az,by rw[ce];rfl,by rw[ce];rfl⟩,an.trans bg (fun x f=>(ai x f).imp (fun h=>by simp[h]) (fun h=>AA S.size h)),bx.keep S,(ai.keep S).trans an.size bh⟩
def lenOf:Value->Nat
 | .slice _ n _=>n
 | _=>0
theorem Yx (j:Nat) (x:Value) (b:RowAt w base r v bs a) (c:Blk w N ty cs) (d:ty≠400) (e:ty≠5) :
 RowAt (w.setCell (aq N j) x) base r v bs a/\Blk (w.setCell (aq N j) x) N ty (cs.setIfInBounds j x)/\Keep [N] w (w.setCell (aq N j) x):=
 ⟨⟨b.blk.far (p:=⟨N,j,none⟩) (b.blk.ne_ c (Ne.symm d)) x,own_set b.own (fun f=>own_blk_ne b.own c (Ne.symm e) (uq f)) x,b.base,b.le,b.few⟩,c.set j x,(Keep.refl [N] _).sc N j⟩
theorem Xl (c:RowAt w base r v bs a) (d:Keep [r] w w') (b:Blk w N ty cs) (f:ty≠400):Blk w' N ty cs:=
 b.keep d (by simpa using fun e=>(c.blk.ne_ b (Ne.symm f)) e.symm)
theorem ZBT (is:List PItem) (k:Nat) (a:k<is.length):QR is=fields ((is.take k).flatMap itF++(itF is[k]++(is.drop (k+1)).flatMap itF)):=by
 unfold QR
 conv=>lhs;rw[<- Bp k is,BY a]
 rw[Az,At]
theorem VAs (is:List PItem):widths (is.flatMap itF)=7*is.length:=by
 rw[<- length_itemB,QR,length_fields]
theorem QBT {n:Nat} (c:Nat) (is:List PItem) (V:Rd w A n (bys (QR is))) (y:∀ i∈is,i.May) (h1:1<=is.length) (h6:is.length<=6) :
 Calls prog 450 #[.slice A n c] w fun e w'=>∃ g P,e=.returned (.tuple #[.slice (some (aq g 0)) is.length P,zz])/\w'.ownsRow w.heap.size 178 4 (.slice (some (aq g 0)) is.length P) is.length (is.flatMap itc)/\kz w w':=by
 obtain⟨m,X⟩:=ex is.length;have hn:n=7*m:=by have:=V.1;simp at this;omega
 have ab:=XU c (QR is) V Z;have ac:=fun W g P (hr:Rd W (some (aq g 0)) (m*4) (is.flatMap itc))=>QAh g m P is hr X.symm y Z;rw[<- X];have a2:=JB X;have ao:=JB ac;have bj:=JB hn;have ap:=JB y;have bk:1<=m:=Z;have bl:m<=6:=Z;clear X ac hn y h1 h6;go_enter func450,ntmps450;go_wp2_with (refine ab.mono ?_;clear ab;rintro e w1 ⟨r,v,rfl,B,ad⟩);go_loopw [2] (fun L wr=>∃ k:Nat,k<=m/\lenOf L=k/\wr.ownsRow w.heap.size 178 4 L k ((is.take k).flatMap itc)/\RowAt wr w.heap.size r v (QR is) (7*k)/\kz w wr) (fun L _=>m-lenOf L)
 case atStart=>exact⟨0,AS _,rfl,Ab _ _ _ _,B,ad⟩
 clear B ad;obtain⟨k,hk,ar,C,B,F⟩:=hrel;obtain⟨bm,Y,rfl,bn,_⟩:=ZB C;clear ar;have Q:=Jj B;have R:(QR is).length=7*m:=by rw[length_itemB,JA a2]
 rw[R] at Q;by_cases au:k<m
 . have a3:k<is.length:=by rw[<- JA a2];exact au
   have D:=ZBT is k a3;have S:7*k=widths ((is.take k).flatMap itF):=by rw[VAs,BE];omega
   have T:(is.take (k+1)).flatMap itc=(is.take k).flatMap itc++itc is[k]:=by rw[AO a3,Az,DL]
   have av:=(JA ap _ (AQ a3)).bounds;generalize is[k]=it at *;obtain⟨f,l,o,j⟩:=it;obtain⟨b1,b2,b3,b4⟩:=av;simp only at b1 b2 b3 b4;generalize (is.take k).flatMap itF=lf at *;generalize (is.drop (k+1)).flatMap itF=rf at *;simp only[itF,Ac,Ad] at D;obtain⟨bs,a4⟩:=ex (QR is);rw[<- a4] at D R B ⊢;have aw:=fun W (h:RowAt W w.heap.size r v bs (7*k+0))=>Vv (k:=1) (n:=f) (t:=[]) lf ((1,l) :: (1,o) :: (4,j) :: rf) h (by rw[D];simp) (by rw[S];simp[Yc,widths]) Z Z;have ax:=fun W (h:RowAt W w.heap.size r v bs (7*k+1))=>Vv (k:=1) (n:=l) (t:=[]) (lf++[(1,f)]) ((1,o) :: (4,j) :: rf) h (by rw[D];simp) (by rw[S];simp[Yc,widths]) Z Z;have ay:=fun W (h:RowAt W w.heap.size r v bs (7*k+2))=>Vv (k:=1) (n:=o) (t:=[]) (lf++[(1,f),(1,l)]) ((4,j) :: rf) h (by rw[D];simp) (by rw[S];simp[Yc,widths]) Z Z;have az:=fun W (h:RowAt W w.heap.size r v bs (7*k+3))=>Vv (k:=4) (n:=j) (t:=[]) (lf++[(1,f),(1,l),(1,o)]) (rf) h (by rw[D];simp) (by rw[S];simp[Yc,widths]) Z Z;have bo:=JB D;have bp:=JB a4;have b0:=JB T;have bq:=JB R;have a5:((k:Nat):Int)<6:=Z;have br:(0:Int)<((7*m:Nat):Int)-((7*k:Nat):Int):=Z;clear D a4 T R S;have ae:Blk (wr.drew.alloc (.cells #[zz,zz,zz,zz] 178)) wr.heap.size 178 #[zz,zz,zz,zz]:=Blk.new wr.drew _ _;have a6:kz wr (wr.drew.alloc (.cells #[zz,zz,zz,zz] 178)):=kq.drew.alloc _;have a7:=B.kO a6;have bt:=F.tO a6;have bu:w.heap.size<=wr.heap.size:=F.size;go_wp2_with (apply mq Q);have b5:Keep [r] wr (wr.drew.alloc (.cells #[zz,zz,zz,zz] 178)):=a6.zero;have s:=aw _ a7
   go_wp2_with (
    (refine s.mono ?_)
    clear s;rintro e w2 ⟨rfl,z,p⟩;have a:=Xl a7 p ae (by decide);have q:=a.frozen 0;obtain⟨I,J,K,M⟩:=YE a;have N:=a.lt;have d:=Yx 0 (.int .i64 (f:Nat)) z a (by decide) (by decide);have a8:=d.1;have af:Blk (w2.setCell (aq wr.heap.size 0) (.int .i64 (f:Nat))) wr.heap.size 178 #[f,zz,zz,zz]:=d.2.1;have b6:=(b5.trans p (fun x b=>.inl b)).trans d.2.2 (fun x b=>.inr (by simp at b;exact Ap b.symm));clear d)
   clear q I J K M N z a p a7 ae;have s:=ax _ a8
   go_wp2_with (
    (refine s.mono ?_)
    clear s;rintro e w3 ⟨rfl,z,p⟩;have a:=Xl a8 p af (by decide);have q:=a.frozen 1;obtain⟨I,J,K,M⟩:=YE a;have N:=a.lt;have d:=Yx 1 (.int .i64 (l:Nat)) z a (by decide) (by decide);have a9:=d.1;have ag:Blk (w3.setCell (aq wr.heap.size 1) (.int .i64 (l:Nat))) wr.heap.size 178 #[f,l,zz,zz]:=d.2.1;have b7:=(b6.trans p (fun x b=>.inl b)).trans d.2.2 (fun x b=>.inr (by simp at b;exact Ap b.symm));clear d)
   clear q I J K M N z a p a8 af;have s:=ay _ a9
   go_wp2_with (
    (refine s.mono ?_)
    clear s;rintro e w4 ⟨rfl,z,p⟩;have a:=Xl a9 p ag (by decide);have q:=a.frozen 2;obtain⟨I,J,K,M⟩:=YE a;have N:=a.lt;have d:=Yx 2 (.int .i64 (o:Nat)) z a (by decide) (by decide);have ah:=d.1;have b8:Blk (w4.setCell (aq wr.heap.size 2) (.int .i64 (o:Nat))) wr.heap.size 178 #[f,l,o,zz]:=d.2.1;have b9:=(b7.trans p (fun x b=>.inl b)).trans d.2.2 (fun x b=>.inr (by simp at b;exact Ap b.symm));clear d)
   clear q I J K M N z a p a9 ag;have s:=az _ ah
   go_wp2_with (first
    | (refine s.mono ?_
       clear s;rintro e O ⟨rfl,z,p⟩;have a:=Xl ah p b8 (by decide);have q:=a.frozen 3;obtain⟨I,J,K,M⟩:=YE a;have N:=a.lt;have d:=Yx 3 (.int .i64 (j:Nat)) z a (by decide) (by decide);have ba:=d.1;have ai:Blk (O.setCell (aq wr.heap.size 3) (.int .i64 (j:Nat))) wr.heap.size 178 #[f,l,o,j]:=d.2.1;have aj:=(b9.trans p (fun x b=>.inl b)).trans d.2.2 (fun x b=>.inr (by simp at b;exact Ap b.symm));obtain⟨y0,y1,y2,y3⟩:=YE ai;have bb:=XB C aj (fun g hg y=>by simp at y;subst y;exact own_blk_ne C B.blk (by decide) hg);have bv:=ai.lt
       have bc:Rd ((O.setCell (aq wr.heap.size 3) (.int .i64 (j:Nat))).alloc (.cells #[ii f,ii l,ii o,ii j] 178)) (some O.heap.size) (1*4) (itc ⟨f,l,o,j⟩):=by
        have:=Rd.of_blk (n:=4) (Blk.new (O.setCell (aq wr.heap.size 3) (.int .i64 (j:Nat))) 178 #[ii f,ii l,ii o,ii j]) sq;simpa [itc] using this
       have a0:=QB bb ((Keep.refl [] _).alloc (.cells #[ii f,ii l,ii o,ii j] 178));have bw:w.heap.size<=r:=B.base
       have ak:kz w (O.setCell (aq wr.heap.size 3) (.int .i64 (j:Nat))):=F.trans aj iq)
    | (at_builtin;refine elemItems.wp_app rfl _ _ rfl w.heap.size _ k _ rfl a0 ⟨O.heap.size,0,none⟩ 1 1 (itc ⟨f,l,o,j⟩) rfl bc (fun u E=>by simp only[itc,AM,C6,DW] at E;rcases E with rfl | rfl | rfl | rfl <;> rfl) Z Z (by have:=(ak.alloc (.cells #[ii f,ii l,ii o,ii j] 178)).size;exact this) ?_))
   intro bx w7 al aa _ _;obtain⟨bz,c2,bd,_⟩:=ZB al;subst bd;have bf:kz w w7:=(ak.alloc (.cells #[ii f,ii l,ii o,ii j] 178)).trans aa (fun x b=>.inr (own_mem a0 b).1);have G:=ba.kO ((Keep.refl [] _).alloc (.cells #[ii f,ii l,ii o,ii j] 178))
   have bg:RowAt w7 w.heap.size r v bs (7*(k+1)):=by
    have h1:RowAt w7 w.heap.size r v bs (7*k+3+4):=⟨G.blk.keep aa (fun y=>own_blk_ne a0 G.blk (by decide) (uq y)),XB G.own aa (fun g hg y=>own_ne G.own a0 (by decide) hg (uq y)),G.base,G.le,G.few⟩
    rwa [show 7*k+3+4=7*(k+1) from Z] at h1
   go_wp2
   go_roundw;case rel=>exact⟨k+1,Z,rfl,by rw[JA b0];exact al,bg,bf⟩
   case measure=>simp[lenOf];omega
 clear R;obtain rfl:k=m:=Z;have T:(is.take k).flatMap itc=is.flatMap itc:=by rw[AH (by rw[<- JA a2];exact AG _)]
 rw[T] at C;obtain⟨g,P,am,_⟩:=JE C Z;simp only[Value.slice.injEq,true_and] at am;obtain⟨rfl,rfl⟩:=am;have a5:((k:Nat):Int)<=6:=Z;have d:((7*k:Nat):Int)-((7*k:Nat):Int)=0:=Z;rw[d] at Q;have an:∀ W,kz wr W->Calls prog 387 #[.slice (some (aq g 0)) k Y] W _:=fun W bh=>(JA ao) W g Y (Rd.of_ownN (QB C bh));have a1:=JB an;clear an T;by_cases c4:k<6
 . have c5:((k:Nat):Int)<6:=Z
   clear a5
   go_wp2_with (first
    | (go_at_call 259;apply mq Q)
    | (go_at_call 387
       refine(JA a1 _ kq.drew).mono ?_;clear a1;rintro e w3 ⟨u,rfl,E,H⟩;obtain⟨bi,uc,rfl,_⟩:=ZB E;have U:=JJ uc c (QR is) (QR is) (Rd.of_own E) (V.keep ((F.drew).tO H))
       rw[AJ rfl] at U)
    | (go_at_call 261;apply mq U))
   go_ret2;exact⟨g,Y,rfl,QB (QB C kq.drew) H,F.drew.tO H⟩
 obtain rfl:k=6:=Z;clear a5 Q
 go_wp2_with (first
  | (go_at_call 387
     refine(JA a1 _ kq).mono ?_;clear a1;rintro e w3 ⟨u,rfl,E,H⟩;obtain⟨bi,uc,rfl,_⟩:=ZB E;have U:=JJ uc c (QR is) (QR is) (Rd.of_own E) (V.keep (F.tO H))
     rw[AJ rfl] at U)
  | (go_at_call 261;apply mq U))
 go_ret2;exact⟨g,Y,rfl,QB C H,F.tO H⟩
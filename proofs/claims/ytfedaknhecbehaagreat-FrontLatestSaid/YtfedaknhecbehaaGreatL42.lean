/- Lemmas of the proof, with their conditions. -/
import Derived.Test.YtfedaknhecbehaaGreatL40
import Derived.Test.YtfedaknhecbehaaGreatL41
namespace Go.Proofs.YtfedaknhecbehaaGreat
open Tryz Go.RowKit Go.Shelf
variable {B base d b:Nat} {D:PDisk} {od:List Bool} {w:World} {F:List Nat}
set_option linter.all false
set_option maxHeartbeats 8000000
set_option maxRecDepth 40000
theorem PS.mounted_good (d:1<=B) (e:B<=64) (f:(JAl B D).now.length=D.n*64) (g:D.n=198+4*pgs B) (h:D.acts<=200) (b:D.faults=List.replicate D.n false):Good B (PS.mounted B D od) 0 0:=by
 refine⟨⟨KBL _,rfl,by simp[PS.mounted],by simp[PS.mounted],by simp[PS.mounted,us0],⟨0,0,Z,by simp[PS.mounted,Qa],by simp[PS.mounted,us0,YD]⟩,by show D.acts+1+1+1<=_;omega,by simp[PS.mounted]⟩,f,g,?_,?_,d,e,by simp[PS.mounted],by simp[PS.mounted],?_,?_,by simp[PS.mounted],by simp[PS.mounted],by simp[PS.mounted]⟩
 . intro x a
   have c:x∈D.faults:=a;rw[b] at c;exact AV c
 . show D.faults.length=D.n
   rw[b,Ai]
 . intro x a
   simp only[PS.mounted] at a;exact .inl (AV a)
 intro x a;simp only[PS.mounted] at a;exact .inl (AV a)
theorem PS.mounted_ext (B:Nat) (D:PDisk) (od:List Bool):Ext B (PS.mounted B D od):=by
 refine⟨⟨rfl,?_,?_⟩,⟨rfl,?_,?_⟩,AS _,?_,?_⟩
 . intro u c
   simp only[PS.mounted,us0,AM] at c;rcases c with rfl | c
   . simp
   rw[AV c];simp
 . intro k d
   have f:k<8:=by simpa [PS.mounted,us0] using d
   have:k=0\/k=1\/k=2\/k=3\/k=4\/k=5\/k=6\/k=7:=Z;rcases this with rfl | rfl | rfl | rfl | rfl | rfl | rfl | rfl <;> simp[PS.mounted,us0]
 . intro s e
   unfold VZ;simp only[PS.mounted,DT];rw[VK (a:=0) Z,VK (a := -1) Z];simp only[Aj,Bt,BV,AB,Ay];rw[AP e];rfl
 . intro i hi
   simp only[PS.mounted,AB,Ay] at hi
   split at hi <;> simp at hi
 . exact fun x b=>by simp only[PS.mounted] at b;rw[AV b];omega
 exact fun x b=>by simp only[PS.mounted] at b;rw[AV b];omega
theorem ZBC (n B:Nat) (f:1<=B) (g:B<=64) (i:n=198+4*pgs B) (h:DiskAt w base d F (PDisk.new n)) (u:base<=w.heap.size) :
 Calls prog 172 #[pq d,.agg #[ii B,ii 8,ii 24],ii 1] w fun e w'=>e=.returned zz /\
  ∃ F' D,DiskAt w' base d F' D/\D=ZBe n B/\D.n=n/\D.off=false/\D.fuse = -1/\D.acts<=200/\D.faults=List.replicate n false/\Keep F w w'/\Grow w F F':=by
 have a:=(Keep.refl [] w).alloc (.cells #[ii B,ii 8,ii 24] 28);have c:=JBB n B f g i (h.kO a) (by simp;omega);have v:=Blk.new w 28 #[ii B,ii 8,ii 24];go_enter func172,ntmps172;obtain⟨y,z,A⟩:(w.alloc (.cells #[ii B,ii 8,ii 24] 28)).cell? w.heap.size=some (.int .i64 B)/\(w.alloc (.cells #[ii B,ii 8,ii 24] 28)).cell? (aq w.heap.size 1)=some (.int .i64 8)/\(w.alloc (.cells #[ii B,ii 8,ii 24] 28)).cell? (aq w.heap.size 2)=some (.int .i64 24):=⟨sq,sq,sq⟩
 go_wp2_with (
  refine c.mono ?_;clear c;rintro e w1 ⟨rfl,F',D,j,k,l,m,o,p,r,s,t⟩)
 go_ret;exact⟨rfl,F',D,j,k,l,m,o,p,r,(a.zero.trans s (fun x b=>.inl b)),fun x b=>(t x b).imp id (fun h=>AA a.size h)⟩
theorem YBS (m:Nat) (h:DiskAt w base d F D) (H:D.off=false) (I:D.fuse = -1) (J:D.acts<=200) (j:D.faults=List.replicate D.n false) (l:Fmt B D) (n:1<=B) (o:B<=64) (u:base<=w.heap.size) (K:1<=m) (L:m<=16) :
 Calls prog 168 #[pq d,m] w fun e w'=>∃ f r s x a b od,e=.returned (.tuple #[pq f,zz]) /\
  Blk w' f 333 #[pq r]/\ReplicaIs w' base r s d x a b B ⟨PS.mounted B D od,0+1,XH m⟩/\f∉YU r a b/\w.heap.size<=f/\Good B (PS.mounted B D od) 0 0/\Keep F w w'/\Grow w F (YU r a b):=by
 have v:=KBU h H I Z (fun k M=>by rw[j,Ay,AP M]) l n o u;have T:¬ ((m:Nat):Int)<1:=Z;have U:¬ (16:Int)<((m:Nat):Int):=Z;go_enter func168,ntmps168
 go_wp2_with (first
  | (go_at_call 278
     refine v.mono ?_;clear v;rintro e w1 ⟨s,rfl,a,od,z,i,N⟩
     have A:=ZBk w1 base s d a B (PS.mounted B D od) z (by simp[PS.mounted]) m K L rfl ⟨by simp[PS.mounted],by simp[PS.mounted]⟩ (AA u i.size))
  | (go_at_call 43
     refine A.mono ?_;clear A;rintro e O ⟨r,x,b,rfl,C,E,P⟩))
 go_ret2;have G:=(Keep.refl [] O).alloc (.cells #[pq r] 333);refine⟨_,r,s,x,a,b,od,rfl,Blk.new _ _ _,C.kO G,fun Q=>by have:=C.lt _ Q;omega,AA i.size E.size,?_,(i.tO E).tO G,fun y c=>?_⟩
 . obtain⟨g,t,p,V,Fd,Ft,Fw,W,X,Y,R,_⟩:=z
   obtain⟨_,_,_,_,S⟩:=R.log.disk;exact PS.mounted_good n o S.len.1 l.n J j
 rcases P y c with c | c
 . exact N y c
 exact .inr (AA i.size c)
theorem DiskAt.down {b':Nat} (h:DiskAt w b d F D) (a:b'<=b):DiskAt w b' d F D:=by
 obtain⟨S,N,H,U,h⟩:=h;exact⟨S,N,H,U,h.blk,ZC h.safe a,ZC h.now a,ZC h.held a,ZC h.flt a,h.ne,h.foot,AA a h.base,h.pos,h.few,h.ats,h.acts⟩
theorem ZAV (w:World) (B m:Nat) (c:1<=B) (g:B<=64) (P:1<=m) (Q:m<=16) :
 Calls prog 56 #[.agg #[ii B,ii 8,ii 24],m] w fun e w'=>∃ d f r s x j k D od,e=.returned (.tuple #[pq d,pq f,.bool true]) /\
  FrSt w w' B f r s d x j k ⟨PS.mounted B D od,0+1,XH m⟩/\Good B (PS.mounted B D od) 0 0/\Fmt B D:=by
 have R:=JD c g;have l:=fun W=>SectorsR_is W B c g;have o:=fun W=>YBf (198+4*pgs B) Z Z W;have p:=fun W base d F h S=>ZBC (w:=W) (base:=base) (d:=d) (198+4*pgs B) B (F:=F) c g rfl h S;obtain⟨n,t⟩:=ex (198+4*pgs B);rw[<- t] at l o p;have u:=KBc B;rw[<- t] at u;have b:=Blk.new w 28 #[ii B,ii 8,ii 24];have a:kz w (w.alloc (.cells #[ii B,ii 8,ii 24] 28)):=kq.alloc _;obtain⟨z,A,C⟩:=XZ b;unfold JBN at *;clear t R;go_enter func56,ntmps56
 go_wp2_with (first
  | (go_at_call 68
     refine(l _).mono ?_;clear l;rintro e w1 ⟨rfl,E⟩;replace a:=a.tO E
     replace b:=b.kO E)
  | (go_at_call 171
     refine(o _).mono ?_;clear o;rintro e T ⟨d,F,rfl,G,H⟩;have U:=a.size;have a8:=b.lt;have I:=G.ge;replace a:=a.tO H;replace b:=b.kO H;clear z A C;obtain⟨z,A,C⟩:=XZ b
     have J:=p T w.heap.size d F (G.down U) a.size)
  | (go_at_call 172
     refine J.mono ?_;clear J p;rintro e w3 ⟨rfl,F',D,K,V,X,Y,a0,a1,a2,i,a9⟩;subst V;have a3:(ZBe n B).faults=List.replicate (ZBe n B).n false:=by rw[a2,X]
     have aa:=b.keep i (fun hm=>by have:=I _ hm;omega)
     have L:=YBS m K Y a0 a1 a3 u c g (AA a.size i.size) P Q)
  | (go_at_call 168
     refine L.mono ?_;clear L;rintro e w4 ⟨f,r,s,x,j,k,od,rfl,M,N,a4,ab,a5,a6,ac⟩
     have O:=VN w4 f r s x M N.blk)
  | (go_at_call 170
     refine O.mono ?_;clear O;rintro e w5 ⟨rfl,rfl⟩))
 go_ret3;have a7:∀ y∈F',w.heap.size<=y:=K.ge;exact⟨d,f,r,s,x,j,k,_,od,rfl,⟨M,N,a4,by have:=i.size;have:=a.size;omega,(a.trans i (fun y v=>.inr (by have:=I y v;omega))).trans a6 (fun y v=>.inr (a7 y v))⟩,a5,u⟩
theorem ZBV (w:World) (B m:Nat) (a:1<=B) (b:B<=64) (h:1<=m) (i:m<=16) :
 Calls prog 56 #[.agg #[ii B,ii 8,ii 24],m] w fun e w'=>∃ d f r s x c g D od,e=.returned (.tuple #[pq d,pq f,.bool true]) /\
  FrSt w w' B f r s d x c g ⟨PS.mounted B D od,0+1,XH m⟩/\Good B (PS.mounted B D od) 0 0:=
 (ZAV w B m a b h i).mono fun _ _ ⟨d,f,r,s,x,c,g,D,od,a,b,j,_⟩=>⟨d,f,r,s,x,c,g,D,od,a,b,j⟩
theorem Does.base1 {S S':PS} {k j:Nat} {bs:List UInt8} (h:Does B S ⟨1,b,0,0,bs⟩ S') (a:Good B S k j) (c:k<=50) (d:b<B) (e:bs.length=64):QD B S'=QD B S:=by
 rcases h with⟨_,h⟩ | ⟨h,_⟩ | ⟨h,_⟩
 . simp only[BK] at h
   exact(h.good a c d e).2.1
 . simp at h
 simp at h
theorem JAS (b:Nat) (a:b<B):(QD B (PS.mounted B D od)).getD b []=List.replicate 64 0:=by
 unfold QD PS.mounted;simp only[C3,AB,Ay];rw[AP a];rfl
theorem Vl (w:World):cr 54 #[] w (.bool true):=by
 have J:=JAG 3 w;have K:=fun W=>Vo 1 W;have L:=fun W=>Vo 2 W;have M:=fun W=>Vo 3 W;have N:∀ W,Calls prog 167 #[ii 9] W _:=fun W=>QAn 9 Z W;have O:=fun W=>QBW W;have Q:=fun W=>YAq W;have R:=fun W=>JAI W;have cs:=fun(b4 b5 b6 b7 b8 b9 ba bb bc bd:Value) W=>QE (P:=prog) underlying58 1 rfl isAgg3 #[b4,b5,b6,b7,b8,b9,ba,bb,bc,bd] rfl W;go_enter func54,ntmps54
 go_wp2_with (first
  | (go_at_call 55
     refine J.mono ?_;clear J;rintro e w1 ⟨B,rfl,ct,_,_,bf⟩;obtain rfl:B=4:=Z
     have S:Calls prog 56 #[.agg #[ii ((4:Nat):Int),ii 8,ii 24],ii 4] w1 _:=ZBV w1 4 4 Z Z Z Z)
  | (go_at_call 56
     refine S.mono ?_;clear S;rintro e w2 ⟨d,f,r,s,x,cu,cv,D,od,rfl,bg,o⟩;have bh:=PS.mounted_ext 4 D od;have bi:(PS.mounted 4 D od).st.view=1/\(PS.mounted 4 D od).st.seq=0/\(PS.mounted 4 D od).st.epoch=0:=⟨rfl,rfl,rfl⟩;have bj:(PS.mounted 4 D od).st.gen=1:=rfl;have bk:=JAS (B:=4) (D:=D) (od:=od) 1 Z
     generalize PS.mounted 4 D od=S2 at *)
  | (go_at_call 28
     first
     | (refine(K _).mono ?_
        clear K;rintro e w3 ⟨u,rfl,bl,bm⟩;obtain⟨T,U,rfl,_⟩:=ZB bl;have V:=bg.kO bm
        have X:Calls prog 165 #[pq f,ii 1,.slice T 64 U] w3 _:=JAW V 1 T 64 U)
     | (refine(L _).mono ?_
        clear L;rintro e w4 ⟨u,rfl,Y,bn⟩;obtain⟨bo,c4,rfl,_,cw,_⟩:=ZB Y;have bp:=V.kO bn
        have a0:Calls prog 64 #[ii 1,ii 1,.agg #[ii 1,ii 1,zz,zz,.slice bo 64 c4]] w4 _:=YAA 1 1 (k:=1) (b:=1) (c:=0) (e:=0) (n:=64) c4 (VR 2) Z Z (.inl ⟨rfl,Z,rfl,rfl,rfl⟩) (Rd.of_own Y) (by assumption))
     | (refine(M _).mono ?_
        rintro e bq ⟨u,rfl,p,a1⟩;obtain⟨a2,a3,rfl,_⟩:=ZB p;have br:=a4.kO a1
        have a5:Calls prog 165 #[pq f,ii 1,.slice a2 64 a3] bq _:=br.write 1 3 i Z Z 1 Z a2 a3 (VR 3) (Rd.of_own p) (fun a ha t=>by have q1:=a4.st.lt _ t;have q2:=(own_mem p (g:=a.block) (by rw[ha];simp[Value.ownBlock])).1;omega))
     | (refine(M _).mono ?_
        rintro e bs ⟨u,rfl,a6,a7⟩;obtain⟨bt,a8,rfl,_⟩:=ZB a6
        have a9:cr 31 #[.slice bu 64 aa,.slice bt 64 a8] bs (.bool true):=(JAR aa a8 (VR 3) (VR 3) (Rd.of_own (QB bv a7)) (Rd.of_own a6) Z Z).mono (by rintro e w' ⟨rfl,k,rfl⟩;exact⟨sq,Keep.ofDrewN k⟩)))
  | (go_at_call 165
     first
     | (refine X.mono ?_
        clear X
        rintro e w' ⟨rfl,rfl⟩)
     | (refine a5.mono ?_
        clear a5;rintro e bw ⟨rfl,cx,ab,ac,bx,bz,c2,cy⟩;have ad:=bx.good i Z Z (length_fillOf 3)
        have c5:(QD 4 ab).getD 1 []=VR 3:=by
         rw[ad.2.1,AB,BT,AP rfl,AP (by unfold QD;rw[BR,i.bl];omega)];rfl
        have c6:ab.st.view=2:=by rw[ad.2.2];exact c7
        have c8:=XB (QB v a1) c2 (fun y hy t=>by have q1:=l.st.lt _ t;have q2:=(own_mem v (g:=y) (by rw[hy];simp)).1;omega)
        have ae:Calls prog 166 #[pq f,ii 1] bw _:=ac.read 2 4 bz 1 Z))
  | (go_at_call 64
     refine a0.mono ?_;clear a0;rintro e w5 ⟨u,rfl,af,c9⟩;obtain⟨ca,cb,rfl,_⟩:=ZB af
     have ag:=(bp.kO c9).step Z bi o Z 1 1 0 0 64 (VR 2) ca cb (Rd.of_own af) (.inl ⟨rfl,Z,rfl,rfl,rfl⟩) (length_fillOf 2) (.inl Z) (.inl ⟨rfl,sq,sq,sq⟩) Z)
  | (go_at_call 63
     first
     | (refine ag.mono ?_
        clear ag;rintro e w6 ⟨cz,vc,d0,d1,ah,rfl,ai,aj,_,ak,A,d2,d3⟩;have al:=A.ext (.inl ⟨rfl,sq,sq,sq⟩) o Z Z bh;have cc:ah.st.gen=1:=A.gen.trans bj;have cd:(QD 4 ah).getD 1 []=List.replicate 64 0:=by rw[Does.base1 (b:=1) A o Z Z (length_fillOf 2)];exact bk
        have am:Calls prog 166 #[pq f,ii 1] w6 _:=XAp ai 1)
     | (refine an.mono ?_
        clear an;rintro e d4 ⟨rfl,C⟩;have ce:=h.kO C;have ao:=QB (QB (QB c8 ap) E) C;have bv:=QB (QB ar E) C;obtain⟨zg,zc,cf,_⟩:=QN ao Z;cases cf;obtain⟨b',d5,cg,ch,au,_,ci⟩:=(Rd.of_own ao).at_ (j:=3) Z;cases ch;have av:cg=.int .u8 0:=by simpa [bys,by8] using au.symm
        rw[av,A6] at ci
        clear au av))
  | (go_at_call 166
     first
     | (refine am.mono ?_
        clear am;rintro e w7 ⟨rfl,cj⟩;have aw:=ai.kO cj;have ax:=aw.promote_view 1 Z Z (by rw[aj.1];omega)
        have ay:Calls prog 59 #[pq f,ii 2] w7 _:=aw.promote _ _ ak al Z (by rw[cc];omega) 2 (by rw[aj.1];omega) Z)
     | (refine az.mono ?_
        clear az;rintro e w9 ⟨d6,d7,rfl,v,ck⟩;have a4:=l.kO ck
        rw[cl] at v)
     | (refine ae.mono ?_
        clear ae;rintro e d8 ⟨bu,aa,rfl,ar,ap⟩;have cm:=ac.kO ap
        rw[c5] at ar))
  | (go_at_call 59
     first
     | (refine ax.mono ?_
        clear ax
        rintro e w' ⟨rfl,rfl⟩)
     | (refine ay.mono ?_
        clear ay;rintro e w8 ⟨rfl,d9,F,l,cn,da,db⟩;have G:=cn.good ak al Z;have i:Good 4 F 1 3:=G.1;have c7:F.st.view=2:=by rw[G.2.2.2.2.1]
        have cl:(QD 4 F).getD 1 []=List.replicate 64 0:=by rw[G.2.2.1];exact cd
        have b0:=l.promote_no 3
        have az:Calls prog 166 #[pq f,ii 1] w8 _:=l.read 1 3 i 1 Z)
     | (refine b0.mono ?_
        clear b0
        rintro e w' ⟨rfl,rfl⟩))
  | (go_at_call 167
     refine(N _).mono ?_;clear N;rintro e b1 ⟨u,rfl,b2,E⟩;obtain⟨co,b3,rfl,_⟩:=ZB b2;have h:=cm.kO E
     have an:cr 63 #[pq f,.slice co 25 b3] b1 (.tuple #[zn,ii 7]):=QAK h.blk ((YAg (w:=b1) (r:=r) (z:=7) (Jw r x h.rblk h.st h.mode) Z b3 (VBI 9 Z) (Rd.of_own b2)).mono (by rintro e w' ⟨rfl,H⟩;exact⟨_,_,rfl,rfl,H⟩)))
  | (go_at_call 168
     refine(O _).mono ?_;clear O
     rintro e w' ⟨rfl,rfl⟩)
  | (go_at_call 31
     refine a9.mono ?_;clear a9;rintro e dc ⟨rfl,cp⟩;have m:=(ce.kO a7).kO cp;have I:=KAH m.blk m.rblk (fun W H=>YO (m.st.kO H))
     rw[c6] at I)
  | (go_at_call 66
     refine I.mono ?_;clear I
     rintro e dd ⟨rfl,cq⟩)
  | (go_at_call 169
     refine(Q _).mono ?_;clear Q
     rintro e w' ⟨rfl,rfl⟩)
  | (go_at_call 170
     refine(R _).mono ?_;clear R;rintro e w' ⟨rfl,rfl⟩))
 go_ret;exact⟨rfl,(bf.tO m.kept).tO cq⟩
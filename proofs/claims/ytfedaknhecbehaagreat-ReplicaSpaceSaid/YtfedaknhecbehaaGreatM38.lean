/- Lemmas of the proof, with their conditions. -/
import Derived.Test.YtfedaknhecbehaaGreatM37
namespace Go.Proofs.YtfedaknhecbehaaGreat
open Tryz Go.RowKit
variable {w0 w:World} {base d n:Nat} {F:List Nat}
set_option linter.all false
set_option maxHeartbeats 8000000
set_option maxRecDepth 40000
theorem leq {a b c:Nat} (h:a<=b) (e:c=b):a<=c:=e ▸ h
theorem VAR {V:World} (k:kz w0 V) (cs:Array Value) (t:TypeId):∃ a g,Blk a g t cs/\kz V a/\w0.heap.size<=g/\V.alloc (.cells cs t)=a/\V.heap.size=g:=⟨_,_,Blk.new _ _ _,kq.alloc _,k.size,rfl,rfl⟩
theorem RDkNew.cell0 (h:RDkNew w base d F n) (i:0<n):∃ g c,∀ W,kz w W->cl W d (.slice (some (aq g 0)) n c):=by
 obtain⟨S,U,R,a,b,j,k,l,m⟩:=h;obtain⟨g,c,e,_⟩:=YD a.safe Z;refine⟨g,c,fun W f=>?_⟩;rw[<- b,<- e];exact(VH (a.blk.kO f)).1
theorem RDkNew.lt (h:RDkNew w base d F n):∀ x∈F,x<w.heap.size:=by
 obtain⟨S,U,R,a,_⟩:=h;exact a.lt
theorem RDkNew.laid (h:RDkNew w base d F n) (e:kz w w0) {N:List Nat} (a:∀ b∈N,w.heap.size<=b/\b<w0.heap.size):Laid w0 w0 base d F n 0 N:=by
 obtain⟨R,f,g,i,l⟩:=(h.kO e).at_;have j:=h.lt;exact⟨F,R,f,g,Z,by rw[i];simp,kq,Grow.refl _ _,fun b c=>⟨fun k=>by have:=j b k;have:=(a b c).1;omega,(a b c).2⟩⟩
theorem ZAm (B:Nat) (a3:1<=B) (a4:B<=64) (hn:n=198+4*pgs B) (ae:RDkNew w base d F n) (gx:base<=w.heap.size) :
 Calls prog 186 #[pq d,Je B,ii 1] w fun e w'=>∃ bf q1 bg E aw,e=.returned (.tuple #[JBg B bf q1 bg E aw,zz])/\SegsR w' aw/\Keep F w w':=by
 have ei:=ZD a3 a4;have ct:=fun W=>ConfigMayR_is W B a3 a4;have cv:∀ W,cq 147 #[ii 1,zz,ii 2147483647] W (.bool true):=fun W=>JD 1 0 2147483647 true sq W;have bh:=fun W=>SectorsR_is W B a3 a4;have bi:=fun W=>PagesR_is W B a3 a4;have cw:=fun W=>YAO B a3 a4 W;have cx:=fun W (o:Bool) (p:Nat) (hp:p<pgs B)=>QAk W B a3 a4 o p hp;have ax:=fun W bf q1 bg E aw (r1:Rd W bf (pgs B) (zv (pgs B))) (r2:Rd W bg (pgs B) (zv (pgs B))) (r3:SegsR W aw)=>JAQ B a3 a4 q1 E r1 r2 r3;have cy:∀ W,cr 202 #[Je B,zz] W (ii 2):=fun W=>Jr W B 0 Z;have cz:∀ W,cr 202 #[Je B,ii 1] W (ii 4):=fun W=>Jr W B 1 Z;have ej:=fun W=>SuperBytesR W B a3 a4;rw[<- hn] at bh;obtain⟨sg,sc,ay⟩:=ae.cell0 Z;have bj:=fun W (hk:kz w W) k (ek:k<n)=>KBE (ae.kO hk) k ek;have gy:=ae.lt;have d0:=fun w0 (hk:kz w w0) N a7=>ae.laid (w0:=w0) hk (N:=N) a7;have el:∀ (w0:World) (m:Nat) (Fi:List Nat) W,ImgAt W w0.heap.size m Fi B->∀ (o:Bool) (p:Nat),p<pgs B->Calls prog 295 #[pq m,.bool o,(p:Nat)] W fun e w'=>∃ A n c,e=.returned (.slice A n c)/\n<=15/\Rd w' A n (List.replicate n (.int .i64 (vOf o)))/\kz W w':=fun w0 m Fi W hi o p hp=>ZBk (w:=W) (m:=m) (Fi:=Fi) (B:=B) a3 a4 hi o p hp;clear ae;obtain⟨P,ah⟩:=ex (pgs B);unfold JBg at ax ⊢;unfold Je at *;rw[<- ah] at bi cx ax el hn ei ⊢;have em:=ZB ah;clear ah;have bk:Blk (((w.alloc (.cells #[ii B,ii 8,ii 24] 28)).alloc (.cells #[zz,zz,zz,zz,zz,zz,zz,zz,zz,zz,zz,zn,zn,zn] 240)).alloc (.cells #[zz,zz,zz,zz,zz,zz,zz,zz,zz,zz,zz,zn,zn,zn] 240)) w.heap.size 28 #[ii B,ii 8,ii 24]:=((Blk.new w 28 #[ii B,ii 8,ii 24]).kO (kq.alloc _)).kO (kq.alloc _)
 have ai:Blk (((w.alloc (.cells #[ii B,ii 8,ii 24] 28)).alloc (.cells #[zz,zz,zz,zz,zz,zz,zz,zz,zz,zz,zz,zn,zn,zn] 240)).alloc (.cells #[zz,zz,zz,zz,zz,zz,zz,zz,zz,zz,zz,zn,zn,zn] 240)) (w.heap.size+1) 240 #[zz,zz,zz,zz,zz,zz,zz,zz,zz,zz,zz,zn,zn,zn]:=by
  have:=(Blk.new (w.alloc (.cells #[ii B,ii 8,ii 24] 28)) 240 #[zz,zz,zz,zz,zz,zz,zz,zz,zz,zz,zz,zn,zn,zn]).kO (kq.alloc (.cells #[zz,zz,zz,zz,zz,zz,zz,zz,zz,zz,zz,zn,zn,zn] 240))
  rwa [show (w.alloc (.cells #[ii B,ii 8,ii 24] 28)).heap.size=w.heap.size+1 from sq] at this
 have bl:kz w (((w.alloc (.cells #[ii B,ii 8,ii 24] 28)).alloc (.cells #[zz,zz,zz,zz,zz,zz,zz,zz,zz,zz,zz,zn,zn,zn] 240)).alloc (.cells #[zz,zz,zz,zz,zz,zz,zz,zz,zz,zz,zz,zn,zn,zn] 240)):=((kq.alloc _).alloc _).alloc _;have h0:(((w.alloc (.cells #[ii B,ii 8,ii 24] 28)).alloc (.cells #[zz,zz,zz,zz,zz,zz,zz,zz,zz,zz,zz,zn,zn,zn] 240)).alloc (.cells #[zz,zz,zz,zz,zz,zz,zz,zz,zz,zz,zz,zn,zn,zn] 240)).heap.size=w.heap.size+3:=sq
 have aj:=ay _ bl;obtain⟨V,U,X⟩:=XD bk;go_enter func186,ntmps186;go_wp2_with fail;generalize (((w.alloc (.cells #[ii B,ii 8,ii 24] 28)).alloc (.cells #[zz,zz,zz,zz,zz,zz,zz,zz,zz,zz,zz,zn,zn,zn] 240)).alloc (.cells #[zz,zz,zz,zz,zz,zz,zz,zz,zz,zz,zz,zn,zn,zn] 240))=wA at *;have a8:=bk.drew;refine ZT (fun w'=>cl w' w.heap.size B/\cl w' (aq w.heap.size 1) (ii 8)/\cl w' (aq w.heap.size 2) (ii 24)/\cl w' (aq d 0) (.slice (some sg) n sc)) 20 [[0,1,2,3],[4,5,6,7,8],[9,10,11,12,13,14,15,16,17,18],[19]] ⟨V,U,X,aj⟩ ?_;simp only[PI];iterate 4 refine wG ?_
 refine JB rq fun K h=>?_;go_wp2_with (refine(ct _).mono ?_;clear ct;rintro e w1 ⟨rfl,az⟩);have bm:=bl.drew.tO az;replace a8:=a8.kO az;replace ai:=ai.drew.kO az;clear V U X aj;obtain⟨V,U,X⟩:=XD a8;have aj:=ay _ bm;refine h _ _ (⟨V,U,X,aj⟩) ?_
 iterate 4 refine wG ?_
 refine JB rq fun K h=>?_;go_wp2_with (refine(cv _).mono ?_;clear cv;rintro e w' ⟨rfl,rfl⟩);refine h _ _ (⟨V,U,X,aj⟩) ?_
 iterate 9 refine wG ?_
 refine JB rq fun K h=>?_;go_wp2_with (refine(bh _).mono ?_;clear bh;rintro e w2 ⟨rfl,b0⟩);have b1:=bm.tO b0;replace a8:=a8.kO b0;replace ai:=ai.kO b0;clear V U X aj az b0 bk bm bl;obtain⟨V,U,X⟩:=XD a8;refine h _ _ (⟨V,U,X,ay _ b1⟩) ?_
 try simp only[Act.put,PU]
 refine VB ?_;have d1:Calls prog 292 #[pq d,zz] w2 fun e w'=>∃ u,e=.returned (.tuple #[u,zz])/\w'.ownsRow w2.heap.size 5 1 u 64 (bys (List.replicate 64 0))/\kz w2 w':=bj w2 b1 0 Z
 go_wp2_with (first
  | (go_at_call 292;first
     | (refine d1.mono ?_
        clear d1;rintro e w3 ⟨ua,rfl,bn,b2⟩;obtain⟨h1,en,rfl,h2⟩:=JI bn Z;have bo:=b1.tO b2
        have d2:Calls prog 292 #[pq d,ii 1] w3 fun e w'=>∃ u,e=.returned (.tuple #[u,zz])/\w'.ownsRow w3.heap.size 5 1 u 64 (bys (List.replicate 64 0))/\kz w3 w':=bj w3 bo 1 Z)
     | (refine d2.mono ?_
        clear d2;rintro e w4 ⟨ub,rfl,bp,ao⟩;obtain⟨h3,eo,rfl,h4⟩:=JI bp Z;have d3:=bo.tO ao;have bq:=Ku en eo ((Rd.of_own bn).keep ao) (Rd.of_own bp)
        unfold supz at bq))
  | (go_at_call 293
     refine bq.mono ?_;clear bq;rintro e w5 ⟨rfl,b3⟩;have d4:=(d3.tO b3).alloc (.cells #[zz,zz,zz,zz,zz] 338);have b4:=(((a8.kO b2).kO ao).kO b3).kO (kq.alloc (.cells #[zz,zz,zz,zz,zz] 338));have d5:=(((ai.kO b2).kO ao).kO b3).kO (kq.alloc (.cells #[zz,zz,zz,zz,zz] 338));clear V U X
     obtain⟨V,U,X⟩:=XD b4)
  | (go_at_call 281
     refine(bi _).mono ?_;clear bi;rintro e w6 ⟨rfl,ap⟩;have br:=d4.tO ap;clear V U X
     obtain⟨V,U,X⟩:=XD (b4.kO ap))
  | (go_at_call 188
     refine(cw _).mono ?_;clear cw;rintro e w7 ⟨m,Fi,rfl,bs,b5⟩;have bt:=br.tO b5;have bu:=(b4.kO ap).kO b5;have d6:=(d5.kO ap).kO b5))
 have h5:=br.size;have h6:=bt.size;clear V U X b2 ao b3 ap b5 b1 bo d3 d4 br bn bp a8 ai b4 d5 bj ay;obtain⟨N,a7⟩:∃ N,N=w.heap.size :: (w.heap.size+1) :: Fi:=⟨_,rfl⟩;have ak:w.heap.size∈N:=by rw[a7];simp
 have bv:w.heap.size+1∈N:=by rw[a7];simp
 have ep:∀ b∈Fi,b∈N:=fun b S=>by rw[a7];simp[S]
 have d7:=d0 w7 bt N (fun b S=>by
  rw[a7] at S;rcases AL.1 S with rfl | S
  . exact⟨AG _,bu.lt⟩
  rcases AL.1 S with rfl | S
  . exact⟨Z,d6.lt⟩
  exact⟨by have:=bs.ge b S;omega,bs.lt b S⟩)
 have h8:=ZB a7;clear a7 d0;have a9:base<=w7.heap.size:=Z
 go_loopw [19,20,21,22,23] (fun i _ _ _ _ wr=>∃ k:Nat,k<=2/\i=.int .i64 k/\Laid w7 wr base d F n (10*k) N/\KeepN N w7 wr) (fun i _ _ _ _ _=>2-(intOf i).toNat)
 case atStart=>exact⟨0,Z,rfl,d7,KeepN.of0 kq⟩
 clear d7;obtain⟨k,hk,rfl,aa,ab⟩:=hrel;by_cases h9:k<2
 . have ha:((k:Nat):Int)<2:=Z
   obtain⟨o,hb⟩:∃ o,(((k:Nat):Int) == 1)=o:=⟨_,rfl⟩;go_wp2_with fail;go_loopw [20,21,22,23] (fun i _ _ _ wr=>∃ p:Nat,p<=P/\i=.int .i64 p/\Laid w7 wr base d F n (10*k+2*p) N/\KeepN N w7 wr) (fun i _ _ _ _=>P-(intOf i).toNat)
   case atStart=>exact⟨0,Z,rfl,aa,ab⟩
   clear aa ab;obtain⟨p,hp,rfl,aa,ab⟩:=hrel;by_cases d8:p<P
   . have hc:((p:Nat):Int)<(P:Nat):=Z
     have ah:=ZBk a3 a4 (bs.keepN ab ep) o p (by rw[<- ZA em];exact d8)
     go_wp2_with (first
      | (go_at_call 295
         refine ah.mono ?_;clear ah;rintro e w8 ⟨hd,n8,eq,rfl,er,es,af⟩
         have d9:=KAj eq (vOf o) (by cases o <;> simp[vOf]) er es)
      | (go_at_call 294
         refine d9.mono ?_;clear d9;rintro e w9 ⟨u9,rfl,a5,et,he,bw⟩;obtain⟨g9,da,rfl,eu⟩:=JI bw Z;have db:=own_mem bw (g:=g9) (by simp[Value.ownBlock]);have ev:=(aa.kO af).add a5 db.1 db.2
         have ar:=ev.mean Z a9 (some g9) 64 da)
      | (go_at_call 200
         refine ar.mono ?_;clear ar;rintro e ew ⟨rfl,b6,a6⟩;have dc:=((ab.trans (KeepN.of0 af)).trans (KeepN.of0 a5)).trans (a6.sub (fun b S=>Ak _ S))
         obtain⟨V,U,X⟩:=XD (bu.keepN dc ak))
      | (go_at_call 297
         refine(cx _ o p d8).mono ?_;rintro e ey ⟨⟨n0,rfl,hf⟩,ac⟩
         have dd:=(b6.kO ac).write Z a9 n0 Z g9 da et ((rd_keepN (Rd.of_own bw) a6 (by rintro _ ⟨⟩;simp)).keep ac) eu sq)
      | (go_at_call 296
         refine dd.mono ?_;clear dd;rintro e ez ⟨rfl,b7,al⟩))
     go_roundw;case rel=>exact⟨p+1,Z,by go_num,(b7.sub (fun b S=>Ak _ S)).mono Z,(dc.trans (KeepN.of0 ac)).trans (al.sub (fun b S=>Ak _ S))⟩
     case measure=>simp[intOf];omega
   obtain rfl:p=P:=Z
   go_wp2_with fail;go_roundw;case rel=>exact⟨k+1,Z,by go_num,aa.mono Z,ab⟩
   case measure=>simp[intOf];omega
 obtain rfl:k=2:=Z
 go_wp2_with fail;have bx:=bu.keepN ab ak;obtain⟨V,U,X⟩:=XD bx
 refine wp_region_rq (fun w'=>cl w' (aq w.heap.size 1) (ii 8)) 11 (.held 0 (.held 1 (.held 2 (.held 4 (.held 6 (.held 7 (.four 3 (.three 5 (.two 8 (.held 9 (.loud 10 .nil)) 10 (.loud 8 (.held 9 .nil))) 8 (.two 5 (.held 9 (.loud 10 .nil)) 10 (.loud 5 (.held 9 .nil))) 10 (.two 5 (.loud 8 (.held 9 .nil)) 8 (.loud 5 (.held 9 .nil)))) 5 (.three 3 (.two 8 (.held 9 (.loud 10 .nil)) 10 (.loud 8 (.held 9 .nil))) 8 (.two 3 (.held 9 (.loud 10 .nil)) 10 (.loud 3 (.held 9 .nil))) 10 (.two 3 (.loud 8 (.held 9 .nil)) 8 (.loud 3 (.held 9 .nil)))) 8 (.three 3 (.two 5 (.held 9 (.loud 10 .nil)) 10 (.loud 5 (.held 9 .nil))) 5 (.two 3 (.held 9 (.loud 10 .nil)) 10 (.loud 3 (.held 9 .nil))) 10 (.two 3 (.loud 5 (.held 9 .nil)) 5 (.loud 3 (.held 9 .nil)))) 10 (.three 3 (.two 5 (.loud 8 (.held 9 .nil)) 8 (.loud 5 (.held 9 .nil))) 5 (.two 3 (.loud 8 (.held 9 .nil)) 8 (.loud 3 (.held 9 .nil))) 8 (.two 3 (.loud 5 (.held 9 .nil)) 5 (.loud 3 (.held 9 .nil)))))))))))
  (by kernel_rfl) (by kernel_rfl) (fun _ _ d _ _ ae=>by cases d <;> exact ae) U ?_
 simp only[RQ.pick,PJ];iterate 6 (refine wpQ_held ?_ rq ?_ ?_;rotate_left;(focus(intro W a0;go_simp;try with_reducible rfl));simp only[Act.put,PU])
 refine @VBg (fun w' z C r D=>kz wr w'/\(wr.heap.size<=z/\wr.heap.size<=C/\wr.heap.size<=r/\wr.heap.size<=D)/\Blk w' z 3 (madeCells (Value.int .i64 0).cells (P*1))/\Blk w' C 3 (madeCells (Value.int .i64 0).cells (P*1))/\Blk w' r 166 (madeCells (Value.agg #[zz,zz]).cells (8*2))/\Blk w' D 240 #[zz,zz,zz,zz,zz,zz,zz,zz,zz,zz,zz,zn,zn,zn]) ?X _ (fun Y=>?_) ?_;rotate_left
 . have y:∀ {W},kz wr W->cl W (aq w.heap.size 1) (ii 8):=fun hk=>(XD (bx.kO hk)).2.1
   have k0:kz wr wr.drew:=kq.drew;generalize wr.drew=V0 at k0 ⊢;refine wpQ_four ?_ ?_ ?_ ?_
   . refine wpQ_loud rq (fun K h=>?_)
     refine elemIntsN.wp1_make _ _ rfl .i64 .i64 P rfl rfl Z Z ?_;intro bz z a f J q1;have M:=leq k0.size a;clear a f;have T:=k0.tO q1;refine h _ _ (y T) ?_
     try simp only[Act.put,PU]
     refine wpQ_three ?_ ?_ ?_
     . refine wpQ_loud rq (fun K h=>?_)
       refine elemIntsN.wp1_make _ _ rfl .i64 .i64 P rfl rfl Z Z ?_;intro a2 C a f L E;have O:=leq T.size a;clear a f;have s:=T.tO E;refine h _ _ (y s) ?_
       try simp only[Act.put,PU]
       refine wpQ_two ?_ ?_
       . refine wpQ_loud rq (fun K h=>?_)
         refine elemUse.wp1_make _ _ rfl .i64 .i64 8 rfl rfl Z Z ?_;intro a1 r a f G l;have Q:=leq s.size a;clear a f;have q:=s.tO l;refine h _ _ (y q) ?_
         try simp only[Act.put,PU]
         iterate 1 (refine wpQ_held ?_ rq ?_ ?_;rotate_left;(focus(intro W a0;go_simp;try with_reducible rfl));simp only[Act.put,PU])
         refine wpQ_loud rq (fun K h=>?_);go_wp2_with fail;obtain⟨I,D,H,j,R,a,f⟩:=VAR q #[zz,zz,zz,zz,zz,zz,zz,zz,zz,zz,zz,zn,zn,zn] 240;rw[a,f];clear a f;have t:=q.tO j;refine h _ _ (y t) ?_
         try simp only[Act.put,PU]
         refine wpQ_nil ?_;exact Y I z C r D ⟨t,⟨M,O,Q,R⟩,J.kO (E.tO (l.tO j)),L.kO (l.tO j),G.kO j,H⟩
       refine wpQ_loud rq (fun K h=>?_)
       go_wp2_with fail;obtain⟨a1,D,H,l,R,a,f⟩:=VAR s #[zz,zz,zz,zz,zz,zz,zz,zz,zz,zz,zz,zn,zn,zn] 240;rw[a,f];clear a f;have q:=s.tO l;refine h _ _ (y q) ?_
       try simp only[Act.put,PU]
       refine wpQ_loud rq (fun K h=>?_);refine elemUse.wp1_make _ _ rfl .i64 .i64 8 rfl rfl Z Z ?_;intro I r a f G j;have Q:=leq q.size a;clear a f;have t:=q.tO j;refine h _ _ (y t) ?_
       try simp only[Act.put,PU]
       iterate 1 (refine wpQ_held ?_ rq ?_ ?_;rotate_left;(focus(intro W a0;go_simp;try with_reducible rfl));simp only[Act.put,PU])
       refine wpQ_nil ?_;exact Y I z C r D ⟨t,⟨M,O,Q,R⟩,J.kO (E.tO (l.tO j)),L.kO (l.tO j),G,H.kO j⟩
     . refine wpQ_loud rq (fun K h=>?_)
       refine elemUse.wp1_make _ _ rfl .i64 .i64 8 rfl rfl Z Z ?_;intro a2 r a f G E;have Q:=leq T.size a;clear a f;have s:=T.tO E;refine h _ _ (y s) ?_
       try simp only[Act.put,PU]
       refine wpQ_two ?_ ?_
       . refine wpQ_loud rq (fun K h=>?_)
         refine elemIntsN.wp1_make _ _ rfl .i64 .i64 P rfl rfl Z Z ?_;intro a1 C a f L l;have O:=leq s.size a;clear a f;have q:=s.tO l;refine h _ _ (y q) ?_
         try simp only[Act.put,PU]
         iterate 1 (refine wpQ_held ?_ rq ?_ ?_;rotate_left;(focus(intro W a0;go_simp;try with_reducible rfl));simp only[Act.put,PU])
         refine wpQ_loud rq (fun K h=>?_);go_wp2_with fail;obtain⟨I,D,H,j,R,a,f⟩:=VAR q #[zz,zz,zz,zz,zz,zz,zz,zz,zz,zz,zz,zn,zn,zn] 240;rw[a,f];clear a f;have t:=q.tO j;refine h _ _ (y t) ?_
         try simp only[Act.put,PU]
         refine wpQ_nil ?_;exact Y I z C r D ⟨t,⟨M,O,Q,R⟩,J.kO (E.tO (l.tO j)),L.kO j,G.kO (l.tO j),H⟩
       refine wpQ_loud rq (fun K h=>?_)
       go_wp2_with fail;obtain⟨a1,D,H,l,R,a,f⟩:=VAR s #[zz,zz,zz,zz,zz,zz,zz,zz,zz,zz,zz,zn,zn,zn] 240;rw[a,f];clear a f;have q:=s.tO l;refine h _ _ (y q) ?_
       try simp only[Act.put,PU]
       refine wpQ_loud rq (fun K h=>?_);refine elemIntsN.wp1_make _ _ rfl .i64 .i64 P rfl rfl Z Z ?_;intro I C a f L j;have O:=leq q.size a;clear a f;have t:=q.tO j;refine h _ _ (y t) ?_
       try simp only[Act.put,PU]
       iterate 1 (refine wpQ_held ?_ rq ?_ ?_;rotate_left;(focus(intro W a0;go_simp;try with_reducible rfl));simp only[Act.put,PU])
       refine wpQ_nil ?_;exact Y I z C r D ⟨t,⟨M,O,Q,R⟩,J.kO (E.tO (l.tO j)),L,G.kO (l.tO j),H.kO j⟩
     refine wpQ_loud rq (fun K h=>?_)
     go_wp2_with fail;obtain⟨a2,D,H,E,R,a,f⟩:=VAR T #[zz,zz,zz,zz,zz,zz,zz,zz,zz,zz,zz,zn,zn,zn] 240;rw[a,f];clear a f;have s:=T.tO E;refine h _ _ (y s) ?_
     try simp only[Act.put,PU]
     refine wpQ_two ?_ ?_
     . refine wpQ_loud rq (fun K h=>?_)
       refine elemIntsN.wp1_make _ _ rfl .i64 .i64 P rfl rfl Z Z ?_;intro a1 C a f L l;have O:=leq s.size a;clear a f;have q:=s.tO l;refine h _ _ (y q) ?_
       try simp only[Act.put,PU]
       refine wpQ_loud rq (fun K h=>?_);refine elemUse.wp1_make _ _ rfl .i64 .i64 8 rfl rfl Z Z ?_;intro I r a f G j;have Q:=leq q.size a;clear a f;have t:=q.tO j;refine h _ _ (y t) ?_
       try simp only[Act.put,PU]
       iterate 1 (refine wpQ_held ?_ rq ?_ ?_;rotate_left;(focus(intro W a0;go_simp;try with_reducible rfl));simp only[Act.put,PU])
       refine wpQ_nil ?_;exact Y I z C r D ⟨t,⟨M,O,Q,R⟩,J.kO (E.tO (l.tO j)),L.kO j,G,H.kO (l.tO j)⟩
     refine wpQ_loud rq (fun K h=>?_)
     refine elemUse.wp1_make _ _ rfl .i64 .i64 8 rfl rfl Z Z ?_;intro a1 r a f G l;have Q:=leq s.size a;clear a f;have q:=s.tO l;refine h _ _ (y q) ?_
     try simp only[Act.put,PU]
     refine wpQ_loud rq (fun K h=>?_);refine elemIntsN.wp1_make _ _ rfl .i64 .i64 P rfl rfl Z Z ?_;intro I C a f L j;have O:=leq q.size a;clear a f;have t:=q.tO j;refine h _ _ (y t) ?_
     try simp only[Act.put,PU]
     iterate 1 (refine wpQ_held ?_ rq ?_ ?_;rotate_left;(focus(intro W a0;go_simp;try with_reducible rfl));simp only[Act.put,PU])
     refine wpQ_nil ?_;exact Y I z C r D ⟨t,⟨M,O,Q,R⟩,J.kO (E.tO (l.tO j)),L,G.kO j,H.kO (l.tO j)⟩
   . refine wpQ_loud rq (fun K h=>?_)
     refine elemIntsN.wp1_make _ _ rfl .i64 .i64 P rfl rfl Z Z ?_;intro bz C a f L q1;have O:=leq k0.size a;clear a f;have T:=k0.tO q1;refine h _ _ (y T) ?_
     try simp only[Act.put,PU]
     refine wpQ_three ?_ ?_ ?_
     . refine wpQ_loud rq (fun K h=>?_)
       refine elemIntsN.wp1_make _ _ rfl .i64 .i64 P rfl rfl Z Z ?_;intro a2 z a f J E;have M:=leq T.size a;clear a f;have s:=T.tO E;refine h _ _ (y s) ?_
       try simp only[Act.put,PU]
       refine wpQ_two ?_ ?_
       . refine wpQ_loud rq (fun K h=>?_)
         refine elemUse.wp1_make _ _ rfl .i64 .i64 8 rfl rfl Z Z ?_;intro a1 r a f G l;have Q:=leq s.size a;clear a f;have q:=s.tO l;refine h _ _ (y q) ?_
         try simp only[Act.put,PU]
         iterate 1 (refine wpQ_held ?_ rq ?_ ?_;rotate_left;(focus(intro W a0;go_simp;try with_reducible rfl));simp only[Act.put,PU])
         refine wpQ_loud rq (fun K h=>?_);go_wp2_with fail;obtain⟨I,D,H,j,R,a,f⟩:=VAR q #[zz,zz,zz,zz,zz,zz,zz,zz,zz,zz,zz,zn,zn,zn] 240;rw[a,f];clear a f;have t:=q.tO j;refine h _ _ (y t) ?_
         try simp only[Act.put,PU]
         refine wpQ_nil ?_;exact Y I z C r D ⟨t,⟨M,O,Q,R⟩,J.kO (l.tO j),L.kO (E.tO (l.tO j)),G.kO j,H⟩
       refine wpQ_loud rq (fun K h=>?_)
       go_wp2_with fail;obtain⟨a1,D,H,l,R,a,f⟩:=VAR s #[zz,zz,zz,zz,zz,zz,zz,zz,zz,zz,zz,zn,zn,zn] 240;rw[a,f];clear a f;have q:=s.tO l;refine h _ _ (y q) ?_
       try simp only[Act.put,PU]
       refine wpQ_loud rq (fun K h=>?_);refine elemUse.wp1_make _ _ rfl .i64 .i64 8 rfl rfl Z Z ?_;intro I r a f G j;have Q:=leq q.size a;clear a f;have t:=q.tO j;refine h _ _ (y t) ?_
       try simp only[Act.put,PU]
       iterate 1 (refine wpQ_held ?_ rq ?_ ?_;rotate_left;(focus(intro W a0;go_simp;try with_reducible rfl));simp only[Act.put,PU])
       refine wpQ_nil ?_;exact Y I z C r D ⟨t,⟨M,O,Q,R⟩,J.kO (l.tO j),L.kO (E.tO (l.tO j)),G,H.kO j⟩
     . refine wpQ_loud rq (fun K h=>?_)
       refine elemUse.wp1_make _ _ rfl .i64 .i64 8 rfl rfl Z Z ?_;intro a2 r a f G E;have Q:=leq T.size a;clear a f;have s:=T.tO E;refine h _ _ (y s) ?_
       try simp only[Act.put,PU]
       refine wpQ_two ?_ ?_
       . refine wpQ_loud rq (fun K h=>?_)
         refine elemIntsN.wp1_make _ _ rfl .i64 .i64 P rfl rfl Z Z ?_;intro a1 z a f J l;have M:=leq s.size a;clear a f;have q:=s.tO l;refine h _ _ (y q) ?_
         try simp only[Act.put,PU]
         iterate 1 (refine wpQ_held ?_ rq ?_ ?_;rotate_left;(focus(intro W a0;go_simp;try with_reducible rfl));simp only[Act.put,PU])
         refine wpQ_loud rq (fun K h=>?_);go_wp2_with fail;obtain⟨I,D,H,j,R,a,f⟩:=VAR q #[zz,zz,zz,zz,zz,zz,zz,zz,zz,zz,zz,zn,zn,zn] 240;rw[a,f];clear a f;have t:=q.tO j;refine h _ _ (y t) ?_
         try simp only[Act.put,PU]
         refine wpQ_nil ?_;exact Y I z C r D ⟨t,⟨M,O,Q,R⟩,J.kO j,L.kO (E.tO (l.tO j)),G.kO (l.tO j),H⟩
       refine wpQ_loud rq (fun K h=>?_)
       go_wp2_with fail;obtain⟨a1,D,H,l,R,a,f⟩:=VAR s #[zz,zz,zz,zz,zz,zz,zz,zz,zz,zz,zz,zn,zn,zn] 240;rw[a,f];clear a f;have q:=s.tO l;refine h _ _ (y q) ?_
       try simp only[Act.put,PU]
       refine wpQ_loud rq (fun K h=>?_);refine elemIntsN.wp1_make _ _ rfl .i64 .i64 P rfl rfl Z Z ?_;intro I z a f J j;have M:=leq q.size a;clear a f;have t:=q.tO j;refine h _ _ (y t) ?_
       try simp only[Act.put,PU]
       iterate 1 (refine wpQ_held ?_ rq ?_ ?_;rotate_left;(focus(intro W a0;go_simp;try with_reducible rfl));simp only[Act.put,PU])
       refine wpQ_nil ?_;exact Y I z C r D ⟨t,⟨M,O,Q,R⟩,J,L.kO (E.tO (l.tO j)),G.kO (l.tO j),H.kO j⟩
     refine wpQ_loud rq (fun K h=>?_)
     go_wp2_with fail;obtain⟨a2,D,H,E,R,a,f⟩:=VAR T #[zz,zz,zz,zz,zz,zz,zz,zz,zz,zz,zz,zn,zn,zn] 240;rw[a,f];clear a f;have s:=T.tO E;refine h _ _ (y s) ?_
     try simp only[Act.put,PU]
     refine wpQ_two ?_ ?_
     . refine wpQ_loud rq (fun K h=>?_)
       refine elemIntsN.wp1_make _ _ rfl .i64 .i64 P rfl rfl Z Z ?_;intro a1 z a f J l;have M:=leq s.size a;clear a f;have q:=s.tO l;refine h _ _ (y q) ?_
       try simp only[Act.put,PU]
       refine wpQ_loud rq (fun K h=>?_);refine elemUse.wp1_make _ _ rfl .i64 .i64 8 rfl rfl Z Z ?_;intro I r a f G j;have Q:=leq q.size a;clear a f;have t:=q.tO j;refine h _ _ (y t) ?_
       try simp only[Act.put,PU]
       iterate 1 (refine wpQ_held ?_ rq ?_ ?_;rotate_left;(focus(intro W a0;go_simp;try with_reducible rfl));simp only[Act.put,PU])
       refine wpQ_nil ?_;exact Y I z C r D ⟨t,⟨M,O,Q,R⟩,J.kO j,L.kO (E.tO (l.tO j)),G,H.kO (l.tO j)⟩
     refine wpQ_loud rq (fun K h=>?_)
     refine elemUse.wp1_make _ _ rfl .i64 .i64 8 rfl rfl Z Z ?_;intro a1 r a f G l;have Q:=leq s.size a;clear a f;have q:=s.tO l;refine h _ _ (y q) ?_
     try simp only[Act.put,PU]
     refine wpQ_loud rq (fun K h=>?_);refine elemIntsN.wp1_make _ _ rfl .i64 .i64 P rfl rfl Z Z ?_;intro I z a f J j;have M:=leq q.size a;clear a f;have t:=q.tO j;refine h _ _ (y t) ?_
     try simp only[Act.put,PU]
     iterate 1 (refine wpQ_held ?_ rq ?_ ?_;rotate_left;(focus(intro W a0;go_simp;try with_reducible rfl));simp only[Act.put,PU])
     refine wpQ_nil ?_;exact Y I z C r D ⟨t,⟨M,O,Q,R⟩,J,L.kO (E.tO (l.tO j)),G.kO j,H.kO (l.tO j)⟩
   . refine wpQ_loud rq (fun K h=>?_)
     refine elemUse.wp1_make _ _ rfl .i64 .i64 8 rfl rfl Z Z ?_;intro bz r a f G q1;have Q:=leq k0.size a;clear a f;have T:=k0.tO q1;refine h _ _ (y T) ?_
     try simp only[Act.put,PU]
     refine wpQ_three ?_ ?_ ?_
     . refine wpQ_loud rq (fun K h=>?_)
       refine elemIntsN.wp1_make _ _ rfl .i64 .i64 P rfl rfl Z Z ?_;intro a2 z a f J E;have M:=leq T.size a;clear a f;have s:=T.tO E;refine h _ _ (y s) ?_
       try simp only[Act.put,PU]
       refine wpQ_two ?_ ?_
       . refine wpQ_loud rq (fun K h=>?_)
         refine elemIntsN.wp1_make _ _ rfl .i64 .i64 P rfl rfl Z Z ?_;intro a1 C a f L l;have O:=leq s.size a;clear a f;have q:=s.tO l;refine h _ _ (y q) ?_
         try simp only[Act.put,PU]
         iterate 1 (refine wpQ_held ?_ rq ?_ ?_;rotate_left;(focus(intro W a0;go_simp;try with_reducible rfl));simp only[Act.put,PU])
         refine wpQ_loud rq (fun K h=>?_);go_wp2_with fail;obtain⟨I,D,H,j,R,a,f⟩:=VAR q #[zz,zz,zz,zz,zz,zz,zz,zz,zz,zz,zz,zn,zn,zn] 240;rw[a,f];clear a f;have t:=q.tO j;refine h _ _ (y t) ?_
         try simp only[Act.put,PU]
         refine wpQ_nil ?_;exact Y I z C r D ⟨t,⟨M,O,Q,R⟩,J.kO (l.tO j),L.kO j,G.kO (E.tO (l.tO j)),H⟩
       refine wpQ_loud rq (fun K h=>?_)
       go_wp2_with fail;obtain⟨a1,D,H,l,R,a,f⟩:=VAR s #[zz,zz,zz,zz,zz,zz,zz,zz,zz,zz,zz,zn,zn,zn] 240;rw[a,f];clear a f;have q:=s.tO l;refine h _ _ (y q) ?_
       try simp only[Act.put,PU]
       refine wpQ_loud rq (fun K h=>?_);refine elemIntsN.wp1_make _ _ rfl .i64 .i64 P rfl rfl Z Z ?_;intro I C a f L j;have O:=leq q.size a;clear a f;have t:=q.tO j;refine h _ _ (y t) ?_
       try simp only[Act.put,PU]
       iterate 1 (refine wpQ_held ?_ rq ?_ ?_;rotate_left;(focus(intro W a0;go_simp;try with_reducible rfl));simp only[Act.put,PU])
       refine wpQ_nil ?_;exact Y I z C r D ⟨t,⟨M,O,Q,R⟩,J.kO (l.tO j),L,G.kO (E.tO (l.tO j)),H.kO j⟩
     . refine wpQ_loud rq (fun K h=>?_)
       refine elemIntsN.wp1_make _ _ rfl .i64 .i64 P rfl rfl Z Z ?_;intro a2 C a f L E;have O:=leq T.size a;clear a f;have s:=T.tO E;refine h _ _ (y s) ?_
       try simp only[Act.put,PU]
       refine wpQ_two ?_ ?_
       . refine wpQ_loud rq (fun K h=>?_)
         refine elemIntsN.wp1_make _ _ rfl .i64 .i64 P rfl rfl Z Z ?_;intro a1 z a f J l;have M:=leq s.size a;clear a f;have q:=s.tO l;refine h _ _ (y q) ?_
         try simp only[Act.put,PU]
         iterate 1 (refine wpQ_held ?_ rq ?_ ?_;rotate_left;(focus(intro W a0;go_simp;try with_reducible rfl));simp only[Act.put,PU])
         refine wpQ_loud rq (fun K h=>?_);go_wp2_with fail;obtain⟨I,D,H,j,R,a,f⟩:=VAR q #[zz,zz,zz,zz,zz,zz,zz,zz,zz,zz,zz,zn,zn,zn] 240;rw[a,f];clear a f;have t:=q.tO j;refine h _ _ (y t) ?_
         try simp only[Act.put,PU]
         refine wpQ_nil ?_;exact Y I z C r D ⟨t,⟨M,O,Q,R⟩,J.kO j,L.kO (l.tO j),G.kO (E.tO (l.tO j)),H⟩
       refine wpQ_loud rq (fun K h=>?_)
       go_wp2_with fail;obtain⟨a1,D,H,l,R,a,f⟩:=VAR s #[zz,zz,zz,zz,zz,zz,zz,zz,zz,zz,zz,zn,zn,zn] 240;rw[a,f];clear a f;have q:=s.tO l;refine h _ _ (y q) ?_
       try simp only[Act.put,PU]
       refine wpQ_loud rq (fun K h=>?_);refine elemIntsN.wp1_make _ _ rfl .i64 .i64 P rfl rfl Z Z ?_;intro I z a f J j;have M:=leq q.size a;clear a f;have t:=q.tO j;refine h _ _ (y t) ?_
       try simp only[Act.put,PU]
       iterate 1 (refine wpQ_held ?_ rq ?_ ?_;rotate_left;(focus(intro W a0;go_simp;try with_reducible rfl));simp only[Act.put,PU])
       refine wpQ_nil ?_;exact Y I z C r D ⟨t,⟨M,O,Q,R⟩,J,L.kO (l.tO j),G.kO (E.tO (l.tO j)),H.kO j⟩
     refine wpQ_loud rq (fun K h=>?_)
     go_wp2_with fail;obtain⟨a2,D,H,E,R,a,f⟩:=VAR T #[zz,zz,zz,zz,zz,zz,zz,zz,zz,zz,zz,zn,zn,zn] 240;rw[a,f];clear a f;have s:=T.tO E;refine h _ _ (y s) ?_
     try simp only[Act.put,PU]
     refine wpQ_two ?_ ?_
     . refine wpQ_loud rq (fun K h=>?_)
       refine elemIntsN.wp1_make _ _ rfl .i64 .i64 P rfl rfl Z Z ?_;intro a1 z a f J l;have M:=leq s.size a;clear a f;have q:=s.tO l;refine h _ _ (y q) ?_
       try simp only[Act.put,PU]
       refine wpQ_loud rq (fun K h=>?_);refine elemIntsN.wp1_make _ _ rfl .i64 .i64 P rfl rfl Z Z ?_;intro I C a f L j;have O:=leq q.size a;clear a f;have t:=q.tO j;refine h _ _ (y t) ?_
       try simp only[Act.put,PU]
       iterate 1 (refine wpQ_held ?_ rq ?_ ?_;rotate_left;(focus(intro W a0;go_simp;try with_reducible rfl));simp only[Act.put,PU])
       refine wpQ_nil ?_;exact Y I z C r D ⟨t,⟨M,O,Q,R⟩,J.kO j,L,G.kO (E.tO (l.tO j)),H.kO (l.tO j)⟩
     refine wpQ_loud rq (fun K h=>?_)
     refine elemIntsN.wp1_make _ _ rfl .i64 .i64 P rfl rfl Z Z ?_;intro a1 C a f L l;have O:=leq s.size a;clear a f;have q:=s.tO l;refine h _ _ (y q) ?_
     try simp only[Act.put,PU]
     refine wpQ_loud rq (fun K h=>?_);refine elemIntsN.wp1_make _ _ rfl .i64 .i64 P rfl rfl Z Z ?_;intro I z a f J j;have M:=leq q.size a;clear a f;have t:=q.tO j;refine h _ _ (y t) ?_
     try simp only[Act.put,PU]
     iterate 1 (refine wpQ_held ?_ rq ?_ ?_;rotate_left;(focus(intro W a0;go_simp;try with_reducible rfl));simp only[Act.put,PU])
     refine wpQ_nil ?_;exact Y I z C r D ⟨t,⟨M,O,Q,R⟩,J,L.kO j,G.kO (E.tO (l.tO j)),H.kO (l.tO j)⟩
   refine wpQ_loud rq (fun K h=>?_)
   go_wp2_with fail;obtain⟨bz,D,H,q1,R,a,f⟩:=VAR k0 #[zz,zz,zz,zz,zz,zz,zz,zz,zz,zz,zz,zn,zn,zn] 240;rw[a,f];clear a f;have T:=k0.tO q1;refine h _ _ (y T) ?_
   try simp only[Act.put,PU]
   refine wpQ_three ?_ ?_ ?_
   . refine wpQ_loud rq (fun K h=>?_)
     refine elemIntsN.wp1_make _ _ rfl .i64 .i64 P rfl rfl Z Z ?_;intro a2 z a f J E;have M:=leq T.size a;clear a f;have s:=T.tO E;refine h _ _ (y s) ?_
     try simp only[Act.put,PU]
     refine wpQ_two ?_ ?_
     . refine wpQ_loud rq (fun K h=>?_)
       refine elemIntsN.wp1_make _ _ rfl .i64 .i64 P rfl rfl Z Z ?_;intro a1 C a f L l;have O:=leq s.size a;clear a f;have q:=s.tO l;refine h _ _ (y q) ?_
       try simp only[Act.put,PU]
       refine wpQ_loud rq (fun K h=>?_);refine elemUse.wp1_make _ _ rfl .i64 .i64 8 rfl rfl Z Z ?_;intro I r a f G j;have Q:=leq q.size a;clear a f;have t:=q.tO j;refine h _ _ (y t) ?_
       try simp only[Act.put,PU]
       iterate 1 (refine wpQ_held ?_ rq ?_ ?_;rotate_left;(focus(intro W a0;go_simp;try with_reducible rfl));simp only[Act.put,PU])
       refine wpQ_nil ?_;exact Y I z C r D ⟨t,⟨M,O,Q,R⟩,J.kO (l.tO j),L.kO j,G,H.kO (E.tO (l.tO j))⟩
     refine wpQ_loud rq (fun K h=>?_)
     refine elemUse.wp1_make _ _ rfl .i64 .i64 8 rfl rfl Z Z ?_;intro a1 r a f G l;have Q:=leq s.size a;clear a f;have q:=s.tO l;refine h _ _ (y q) ?_
     try simp only[Act.put,PU]
     refine wpQ_loud rq (fun K h=>?_);refine elemIntsN.wp1_make _ _ rfl .i64 .i64 P rfl rfl Z Z ?_;intro I C a f L j;have O:=leq q.size a;clear a f;have t:=q.tO j;refine h _ _ (y t) ?_
     try simp only[Act.put,PU]
     iterate 1 (refine wpQ_held ?_ rq ?_ ?_;rotate_left;(focus(intro W a0;go_simp;try with_reducible rfl));simp only[Act.put,PU])
     refine wpQ_nil ?_;exact Y I z C r D ⟨t,⟨M,O,Q,R⟩,J.kO (l.tO j),L,G.kO j,H.kO (E.tO (l.tO j))⟩
   . refine wpQ_loud rq (fun K h=>?_)
     refine elemIntsN.wp1_make _ _ rfl .i64 .i64 P rfl rfl Z Z ?_;intro a2 C a f L E;have O:=leq T.size a;clear a f;have s:=T.tO E;refine h _ _ (y s) ?_
     try simp only[Act.put,PU]
     refine wpQ_two ?_ ?_
     . refine wpQ_loud rq (fun K h=>?_)
       refine elemIntsN.wp1_make _ _ rfl .i64 .i64 P rfl rfl Z Z ?_;intro a1 z a f J l;have M:=leq s.size a;clear a f;have q:=s.tO l;refine h _ _ (y q) ?_
       try simp only[Act.put,PU]
       refine wpQ_loud rq (fun K h=>?_);refine elemUse.wp1_make _ _ rfl .i64 .i64 8 rfl rfl Z Z ?_;intro I r a f G j;have Q:=leq q.size a;clear a f;have t:=q.tO j;refine h _ _ (y t) ?_
       try simp only[Act.put,PU]
       iterate 1 (refine wpQ_held ?_ rq ?_ ?_;rotate_left;(focus(intro W a0;go_simp;try with_reducible rfl));simp only[Act.put,PU])
       refine wpQ_nil ?_;exact Y I z C r D ⟨t,⟨M,O,Q,R⟩,J.kO j,L.kO (l.tO j),G,H.kO (E.tO (l.tO j))⟩
     refine wpQ_loud rq (fun K h=>?_)
     refine elemUse.wp1_make _ _ rfl .i64 .i64 8 rfl rfl Z Z ?_;intro a1 r a f G l;have Q:=leq s.size a;clear a f;have q:=s.tO l;refine h _ _ (y q) ?_
     try simp only[Act.put,PU]
     refine wpQ_loud rq (fun K h=>?_);refine elemIntsN.wp1_make _ _ rfl .i64 .i64 P rfl rfl Z Z ?_;intro I z a f J j;have M:=leq q.size a;clear a f;have t:=q.tO j;refine h _ _ (y t) ?_
     try simp only[Act.put,PU]
     iterate 1 (refine wpQ_held ?_ rq ?_ ?_;rotate_left;(focus(intro W a0;go_simp;try with_reducible rfl));simp only[Act.put,PU])
     refine wpQ_nil ?_;exact Y I z C r D ⟨t,⟨M,O,Q,R⟩,J,L.kO (l.tO j),G.kO j,H.kO (E.tO (l.tO j))⟩
   refine wpQ_loud rq (fun K h=>?_)
   refine elemUse.wp1_make _ _ rfl .i64 .i64 8 rfl rfl Z Z ?_;intro a2 r a f G E;have Q:=leq T.size a;clear a f;have s:=T.tO E;refine h _ _ (y s) ?_
   try simp only[Act.put,PU]
   refine wpQ_two ?_ ?_
   . refine wpQ_loud rq (fun K h=>?_)
     refine elemIntsN.wp1_make _ _ rfl .i64 .i64 P rfl rfl Z Z ?_;intro a1 z a f J l;have M:=leq s.size a;clear a f;have q:=s.tO l;refine h _ _ (y q) ?_
     try simp only[Act.put,PU]
     refine wpQ_loud rq (fun K h=>?_);refine elemIntsN.wp1_make _ _ rfl .i64 .i64 P rfl rfl Z Z ?_;intro I C a f L j;have O:=leq q.size a;clear a f;have t:=q.tO j;refine h _ _ (y t) ?_
     try simp only[Act.put,PU]
     iterate 1 (refine wpQ_held ?_ rq ?_ ?_;rotate_left;(focus(intro W a0;go_simp;try with_reducible rfl));simp only[Act.put,PU])
     refine wpQ_nil ?_;exact Y I z C r D ⟨t,⟨M,O,Q,R⟩,J.kO j,L,G.kO (l.tO j),H.kO (E.tO (l.tO j))⟩
   refine wpQ_loud rq (fun K h=>?_)
   refine elemIntsN.wp1_make _ _ rfl .i64 .i64 P rfl rfl Z Z ?_;intro a1 C a f L l;have O:=leq s.size a;clear a f;have q:=s.tO l;refine h _ _ (y q) ?_
   try simp only[Act.put,PU]
   refine wpQ_loud rq (fun K h=>?_);refine elemIntsN.wp1_make _ _ rfl .i64 .i64 P rfl rfl Z Z ?_;intro I z a f J j;have M:=leq q.size a;clear a f;have t:=q.tO j;refine h _ _ (y t) ?_
   try simp only[Act.put,PU]
   iterate 1 (refine wpQ_held ?_ rq ?_ ?_;rotate_left;(focus(intro W a0;go_simp;try with_reducible rfl));simp only[Act.put,PU])
   refine wpQ_nil ?_;exact Y I z C r D ⟨t,⟨M,O,Q,R⟩,J,L.kO j,G.kO (l.tO j),H.kO (E.tO (l.tO j))⟩
 rintro w8 z C r D ⟨af,⟨hg,hh,f0,f1⟩,J,L,G,H⟩;replace G:=XAT G;have am:=bx.kO af;have f2:=H.lt;have f3:=G.lt;have c2:∀ b∈N,b<wr.heap.size:=fun b S=>by obtain⟨_,_,_,_,_,_,_,_,h7⟩:=aa;exact(h7 b S).2
 have de:D≠r:=Ky H G (by decide);have f4:D≠z:=Ky H J (by decide);have f5:D≠C:=Ky H L (by decide);have f6:D≠w.heap.size:=Ky H am (by decide);have f7:r≠z:=Ky G J (by decide);have f8:r≠C:=Ky G L (by decide);have f9:r≠w.heap.size:=Ky G am (by decide);refine Va rfl _ _ _ rfl _ _ rfl rfl (VAP [.int .i64 1,.int .i64 1,.int .i64 1,.int .i64 0,.int .i64 0,.int .i64 0,.int .i64 0,.int .i64 0,.int .i64 1,.int .i64 0,.int .i64 1,.slice (some (aq z 0)) P P,.slice (some (aq C 0)) P P,.slice (some (aq r 0)) 8 8] rfl (by simp[Value.oneCell']) (KY H 14 sq)) ?_;have c4:=H.all [.int .i64 1,.int .i64 1,.int .i64 1,.int .i64 0,.int .i64 0,.int .i64 0,.int .i64 0,.int .i64 0,.int .i64 1,.int .i64 0,.int .i64 1,.slice (some (aq z 0)) P P,.slice (some (aq C 0)) P P,.slice (some (aq r 0)) 8 8] sq;have a5:=Keep.setCells (g:=D) [.int .i64 1,.int .i64 1,.int .i64 1,.int .i64 0,.int .i64 0,.int .i64 0,.int .i64 0,.int .i64 0,.int .i64 1,.int .i64 0,.int .i64 1,.slice (some (aq z 0)) P P,.slice (some (aq C 0)) P P,.slice (some (aq r 0)) 8 8] 0 (Keep.refl [D] w8) (.inl sq);generalize w8.setCells D 0 [.int .i64 1,.int .i64 1,.int .i64 1,.int .i64 0,.int .i64 0,.int .i64 0,.int .i64 0,.int .i64 0,.int .i64 1,.int .i64 0,.int .i64 1,.slice (some (aq z 0)) P P,.slice (some (aq C 0)) P P,.slice (some (aq r 0)) 8 8]=w9 at *;have b8:=G.keep a5 (uq de.symm);have df:=J.keep a5 (uq f4.symm);have dg:=L.keep a5 (uq f5.symm);replace am:=am.keep a5 (uq f6.symm);clear G J L H;obtain⟨fa,a,f,fb,fc,fd,fe,ff,fg,fh,fi,fj,fk,fl⟩:=cells14y c4;have q0:cl w9 (aq r 0) zz:=by rw[b8.cell];simp
 have qf:=b8.frozen 0;have a6:Keep [r] w9 (w9.setCell (aq r 0) (.int .i64 1)):=kq.sc r 0;have b9:=c4.keep a6 (uq de);have c5:=am.keep a6 (uq f9.symm);have dh:=df.keep a6 (uq f7.symm);have di:=dg.keep a6 (uq f8.symm);have c6:=b8.set 0 (.int .i64 1);obtain⟨i0,i1,i2,i3,i4,i5,i6,i7,i8,i9,fm,fn,fo,fp⟩:=cells14y b9;clear V U X;obtain⟨V,U,X⟩:=XD c5;go_wp2_with fail;have hj:=af.size;have hl:=aa.keepF.size
 have b6:=((aa.addL af [D,r] (by
  intro b S;simp at S;rcases S with rfl | rfl
  . exact⟨f1,f2⟩
  . exact⟨f0,f3⟩)).turn a5 (by
  intro x hx;simp at hx;subst hx;exact⟨sq,Z⟩)).turn a6 (by
  intro x hx;simp at hx;subst hx;exact⟨sq,Z⟩)
 have dj:KeepN N w7 (w9.setCell (aq r 0) (.int .i64 1)):=by
  refine((ab.trans (KeepN.of0 af)).trans ⟨[D],a5,fun b S=>?_⟩).trans ⟨[r],a6,fun b S=>?_⟩
  . have:=c2 b S
    simp;omega
  have:=c2 b S
  simp;omega
 have dk:=ax _ (some (aq z 0)) P (some (aq C 0)) P r (ZAb dh) (ZAb di) (JAx c6);have c7:=JAx c6;have fq:=b9.range;clear i0 i1 i2 i3 i4 i5 i6 i7 i8 i9 fm fn fo fp fa a f fb fc fd fe ff fg fh fi fj fk fl c6 dh di am c4 b8 df dg q0 qf a5 a6 ax;have hm:=c7.2 Z;generalize w9.setCell (aq r 0) (.int .i64 1)=ew at *
 go_wp2_with (first
  | (go_at_call 199
     refine dk.mono ?_;clear dk;rintro e ey ⟨u,rfl,ac,fr,ho,hu⟩;obtain⟨gu,cu,rfl,fs⟩:=JI hu Z;have dl:=own_mem hu (g:=gu) (by simp[Value.ownBlock]);have dm:=b6.add ac dl.1 dl.2
     have ar:=dm.mean Z a9 (some gu) 128 cu)
  | (go_at_call 200
     refine ar.mono ?_;clear ar;rintro e ez ⟨rfl,b7,al⟩;have c8:=(c5.kO ac).keepN al (by simp[ak]);clear V U X
     obtain⟨V,U,X⟩:=XD c8)
  | (go_at_call 202
     refine(cy _).mono ?_;clear cy;rintro e ft ⟨rfl,au⟩
     have dn:Calls prog 201 #[pq d,ii 2,.slice (some gu) 128 cu] ft _:=(b7.kO au).rows Z a9 2 Z gu cu fr ((rd_keepN (Rd.of_own hu) al (by rintro _ ⟨⟩;simp)).keep au) fs sq)
  | (go_at_call 201
     refine dn.mono ?_;clear dn;rintro e ag ⟨rfl,dp,c9⟩;have an:=(c8.kO au).keepN c9 (by simp[ak]);clear V U X;obtain⟨V,U,X⟩:=XD an))
 have ca:=(KeepN.of0 ac).trans (al.trans ((KeepN.of0 au).trans c9));have dq:=b9.keepN ca sq;have dr:SegsR ag r:=rd_keepN c7 ca (by rintro _ ⟨⟩;simp);have ds:=dj.trans (ca.sub (fun b S=>by simp[S]));clear ac al au c9 b7 dm b6 c8 c5 dj fq c7 b9;refine ZR (fun w'=>cl w' w.heap.size B/\cl w' (aq w.heap.size 1) (ii 8)/\cl w' (aq w.heap.size 2) (ii 24)) 6 (.held 0 (.held 1 (.held 3 (.held 4 (.two 2 (.loud 5 .nil) 5 (.loud 2 .nil)))))) ⟨V,U,X⟩ ?_;simp only[RT.pick,PJ];iterate 4 refine wW ?_
 refine @JBW (fun w' gz=>kz ag w'/\ag.heap.size<=gz/\gz<w'.heap.size/\Rd w' (some (aq gz 0)) 128 (bys (List.replicate 128 0))) ?X2 _ (fun Y=>?_) ?_;rotate_left
 . refine wpR_two ?_ ?_
   . refine wpR_loud rq fun K h=>?_
     go_wp2_with (refine(cz _).mono ?_;rintro e fu ⟨rfl,fv⟩);have ad:=(Keep.refl [] ag).drew.tO fv;refine h _ _ (XD (an.kO ad)) ?_
     try simp only[Act.put,PU]
     refine wpR_loud rq fun K h=>?_;refine elem8N.wp1_make _ _ rfl .i64 .i64 128 rfl rfl Z Z ?_;intro cb gz ba dt av bb;refine h _ _ ((XD ((an.kO ad).kO bb))) ?_
     try simp only[Act.put,PU]
     refine wpR_nil ?_;exact Y cb gz ⟨ad.tO bb,by rw[ba];exact ad.size,av.lt,YAt av⟩
   refine wpR_loud rq fun K h=>?_
   refine elem8N.wp1_make _ _ rfl .i64 .i64 128 rfl rfl Z Z ?_;intro fu gz ba dt av bb;have fw:ag.heap.size<=gz:=by rw[ba];exact(Keep.refl [] ag).drew.size
   clear ba dt;have ad:=(Keep.refl [] ag).drew.tO bb;refine h _ _ (XD (an.kO ad)) ?_
   try simp only[Act.put,PU]
   refine wpR_loud rq fun K h=>?_;go_wp2_with (refine(cz _).mono ?_;rintro e cb ⟨rfl,bc⟩);refine h _ _ ((XD ((an.kO ad).kO bc))) ?_
   try simp only[Act.put,PU]
   refine wpR_nil ?_;exact Y cb gz ⟨ad.tO bc,fw,by have:=av.lt;have:=bc.size;omega,(YAt av).keep bc⟩
 rintro fx gz ⟨cc,fy,fz,g0⟩;have du:=dp.add cc fy fz;have dv:Calls prog 201 #[pq d,ii 4,.slice (some (aq gz 0)) 128 128] fx _:=du.rows Z a9 4 Z gz 128 _ g0 Z sq;have cd:=fun W=>ej W;unfold JBj at cd
 go_wp2_with (first
  | (go_at_call 201
     refine dv.mono ?_;clear dv;rintro e hq ⟨rfl,dw,dx⟩;have ce:=(KeepN.of0 cc).trans dx;have cf:=an.keepN ce (by simp[ak]);clear V U X
     obtain⟨V,U,X⟩:=XD cf)
  | (at_make
     refine elem8N.wp_make rfl _ _ rfl .i64 .i64 64 rfl rfl Z Z ?_;intro g1 dy g2 g3 dz cg;have e0:=dw.add cg Z dz.lt;have e1:Calls prog 296 #[pq d,zz,.slice (some dy) 64 64] g1 _:=e0.write Z a9 0 Z dy 64 _ (YAt dz) Z sq
     clear g2 g3)
  | (go_at_call 296;first
     | (refine e1.mono ?_
        clear e1;rintro e hr ⟨rfl,e2,e3⟩;have ch:=(KeepN.of0 cg).trans (e3.sub (fun b S=>Ak _ S));have e4:=cf.keepN ch (by simp[ak]);clear V U X
        obtain⟨V,U,X⟩:=XD e4)
     | (refine e5.mono ?_
        clear e5;rintro e e6 ⟨rfl,e7,e8⟩
        have e9:=(KeepN.of0 ci).trans (cj.trans e8)))
  | (go_at_call 298
     refine(cd _).mono ?_;clear cd;rintro e hs ⟨ht,rfl,ci,g4,hv,ck⟩;obtain⟨bd,cm,rfl,g5⟩:=JI ck Z;have ea:=own_mem ck (g:=bd) (by simp[Value.ownBlock]);have eb:=e2.add ci ea.1 ea.2
     have ec:=eb.mean Z a9 (some bd) 64 cm)
  | (go_at_call 200
     refine ec.mono ?_;clear ec;rintro e g6 ⟨rfl,ed,cj⟩;have e5:Calls prog 296 #[pq d,ii 1,.slice (some bd) 64 cm] g6 _:=ed.write Z a9 1 Z bd cm g4 (rd_keepN (Rd.of_own ck) cj (by rintro _ ⟨⟩;simp)) g5 sq))
 have cn:=ce.trans (ch.trans (e9.sub (fun b S=>Ak _ (Ak _ S))));have ee:=(dq.keepN cn sq).drew;have g7:SegsR e6.drew r:=(rd_keepN dr cn (by rintro _ ⟨⟩;simp)).drew;have g8:=(ds.trans (cn.sub (fun b S=>by simp[S]))).trans (KeepN.of0 kq.drew);have ga:=d6.keepN g8 bv;have ef:=(e7.kO kq.drew).flush Z;have gb:e6.drew.rangeAt D 0 [.int .i64 1,.int .i64 1,.int .i64 1,.int .i64 0,.int .i64 0,.int .i64 0,.int .i64 0,.int .i64 0,.int .i64 1,.int .i64 0,.int .i64 1,.slice (some (aq z 0)) P P,.slice (some (aq C 0)) P P,.slice (some (aq r 0)) 8 8]:=ee.range;clear e7 ed eb e2 e0 dw du dp e8 cj ci e3 cg dx cc ce ch e9 cf e4 dq dr ds V U X;refine ZT (fun w'=>w'.rangeAt D 0 [.int .i64 1,.int .i64 1,.int .i64 1,.int .i64 0,.int .i64 0,.int .i64 0,.int .i64 0,.int .i64 0,.int .i64 1,.int .i64 0,.int .i64 1,.slice (some (aq z 0)) P P,.slice (some (aq C 0)) P P,.slice (some (aq r 0)) 8 8]) 3 [[0,1],[2]] gb ?_;simp only[PI];refine XV _ rq (fun W a0=>Xf _ _ rfl _ rfl (JBM (b:=D) (cs:=[.int .i64 1,.int .i64 1,.int .i64 1,.int .i64 0,.int .i64 0,.int .i64 0,.int .i64 0,.int .i64 0,.int .i64 1,.int .i64 0,.int .i64 1,.slice (some (aq z 0)) P P,.slice (some (aq C 0)) P P,.slice (some (aq r 0)) 8 8]) rfl (W:=W) a0)) ?_
 iterate 1 refine wG ?_
 refine JB rq fun K h=>?_
 go_wp2_with (
  refine ef.mono ?_;clear ef;rintro e co ⟨rfl,gc,cp⟩;have gd:=ee.keepN cp sq;have gf:SegsR co r:=rd_keepN g7 cp (by rintro _ ⟨⟩;simp);have eg:=ga.keepN cp (by simp[bv]))
 refine h _ _ (gd.range) ?_
 try simp only[Act.put,PU]
 refine VB ?_
 have gg:r≠w.heap.size+1:=by
  have:=c2 _ bv;omega
 refine Va rfl _ _ _ rfl _ _ rfl rfl (VAP [.int .i64 1,.int .i64 1,.int .i64 1,.int .i64 0,.int .i64 0,.int .i64 0,.int .i64 0,.int .i64 0,.int .i64 1,.int .i64 0,.int .i64 1,.slice (some (aq z 0)) P P,.slice (some (aq C 0)) P P,.slice (some (aq r 0)) 8 8] rfl (by simp[Value.oneCell']) (KY eg 14 sq)) ?_;have gh:=eg.all [.int .i64 1,.int .i64 1,.int .i64 1,.int .i64 0,.int .i64 0,.int .i64 0,.int .i64 0,.int .i64 0,.int .i64 1,.int .i64 0,.int .i64 1,.slice (some (aq z 0)) P P,.slice (some (aq C 0)) P P,.slice (some (aq r 0)) 8 8] sq;have eh:=Keep.setCells (g:=w.heap.size+1) [.int .i64 1,.int .i64 1,.int .i64 1,.int .i64 0,.int .i64 0,.int .i64 0,.int .i64 0,.int .i64 0,.int .i64 1,.int .i64 0,.int .i64 1,.slice (some (aq z 0)) P P,.slice (some (aq C 0)) P P,.slice (some (aq r 0)) 8 8] 0 (Keep.refl [w.heap.size+1] co) (.inl sq);generalize co.setCells (w.heap.size+1) 0 [.int .i64 1,.int .i64 1,.int .i64 1,.int .i64 0,.int .i64 0,.int .i64 0,.int .i64 0,.int .i64 0,.int .i64 1,.int .i64 0,.int .i64 1,.slice (some (aq z 0)) P P,.slice (some (aq C 0)) P P,.slice (some (aq r 0)) 8 8]=w25 at *;obtain⟨gi,gj,gk,gl,gm,gn,gp,gq,gr,g9,gs,gt,gv,gw⟩:=cells14y gh;go_wp2_with fail;exact Ac (v:=.tuple #[.agg #[ii 1,ii 1,ii 1,zz,zz,zz,zz,zz,ii 1,zz,ii 1,.slice (some (aq z 0)) P P,.slice (some (aq C 0)) P P,.slice (some (aq r 0)) 8 8],zz]) (by simp[results,results186,go_sem,gi,gj,gk,gl,gm,gn,gp,gq,gr,g9,gs,gt,gv,gw]) rfl ⟨some ⟨z,0,none⟩,P,some ⟨C,0,none⟩,P,r,rfl,gf.keepIf eh (by rintro _ ⟨⟩;simpa using gg),(bt.zero.trans gc (fun x hx=>.inl hx)).trans eh iq⟩
theorem ZBj (B:Nat) (a1:1<=B) (a2:B<=64) (hn:n=198+4*pgs B) (h:RDkNew w base d F n) (ai:base<=w.heap.size) :
 Calls prog 70 #[pq d,Je B,ii 1] w fun e w'=>∃ x,e=.returned (.tuple #[pq x,zz])/\Keep F w w':=by
 have X:kz w (w.alloc (.cells #[ii B,ii 8,ii 24] 28)):=kq.alloc _;have T:=ZAm B a1 a2 hn (h.kO X) (by have:=X.size;omega);have Y:=Blk.new w 28 #[ii B,ii 8,ii 24];have ab:=h.lt;have ac:w.heap.size∉F:=fun hm=>by have:=ab _ hm;omega
 have a3:=fun W G (hs:SegsR W G)=>KBC B hs;have a4:=fun W=>YAO B a1 a2 W;have a5:=fun W t=>VAi W B d t;obtain⟨a,b,c⟩:=XD Y;unfold JBg at T;unfold Je pos0 at *;clear h hn;obtain⟨P,a6⟩:=ex (pgs B);rw[<- a6] at T;clear a6;go_enter func70,ntmps70
 go_wp2_with (
  refine T.mono ?_;clear T;rintro e w1 ⟨C,D,E,H,G,rfl,a7,a8⟩)
 have a9:=Y.keep a8 ac;have ad:Keep F w w1:=(X.zero (l:=F)).trans a8 (fun x hx=>.inl hx);have ae:=Blk.new w1 240 #[ii 1,ii 1,ii 1,zz,zz,zz,zz,zz,ii 1,zz,ii 1,.slice C P D,.slice E P H,.slice (some (aq G 0)) 8 8];have a0:=(Keep.refl [] w1).alloc (.cells #[ii 1,ii 1,ii 1,zz,zz,zz,zz,zz,ii 1,zz,ii 1,.slice C P D,.slice E P H,.slice (some (aq G 0)) 8 8] 240);have af:=a9.kO a0;have ag:=a7.keep a0;generalize w1.alloc (.cells #[ii 1,ii 1,ii 1,zz,zz,zz,zz,zz,ii 1,zz,ii 1,.slice C P D,.slice E P H,.slice (some (aq G 0)) 8 8] 240)=w2 at *;generalize w1.heap.size=rg at *;have aa:=ad.tO a0;clear a b c a7 a9 Y;have M:=fun(W:World) (hk:kz w2 W)=>cells14y (ae.kO hk);have N:=fun(W:World) (hk:kz w2 W)=>XD (af.kO hk);have U:kz w2 w2.drew:=kq.drew;obtain⟨r,s,u,v,y,z,k,m,o,q,f,g,i,j⟩:=M _ U;obtain⟨a,b,c⟩:=N _ U;refine ZT (fun w'=>cl w' w.heap.size B/\cl w' (aq w.heap.size 1) (ii 8)/\cl w' (aq w.heap.size 2) (ii 24)/\cl w' (aq rg 10) (ii 1)/\cl w' (aq rg 11) (.slice C P D)/\cl w' (aq rg 12) (.slice E P H)/\cl w' (aq rg 13) (.slice (some (aq G 0)) 8 8)) 17 [[0,1,2,3,4,5,6,7,8,10,11,13,14,15,16],[9],[12]] ⟨a,b,c,f,g,i,j⟩ ?_;simp only[PI];iterate 15 refine wG ?_
 clear a b c r s u v y z k m o q f g i j;refine JB rq fun K O=>?_;go_wp2_with (refine(a3 _ G (ag.keep U)).mono ?_;clear a3;rintro e w3 ⟨J,rfl,Q⟩);replace Q:=U.tO Q;obtain⟨r,s,u,v,y,z,k,m,o,q,f,g,i,j⟩:=M _ Q;obtain⟨a,b,c⟩:=N _ Q;refine O _ _ (⟨a,b,c,f,g,i,j⟩) ?_
 try simp only[Act.put,PU]
 clear a b c r s u v y z k m o q f g i j;refine JB rq fun K O=>?_;go_wp2_with (refine(a4 _).mono ?_;clear a4;rintro e R ⟨mm,Fi,rfl,_,L⟩);replace L:=Q.tO L;obtain⟨r,s,u,v,y,z,k,m,o,q,f,g,i,j⟩:=M _ L;obtain⟨a,b,c⟩:=N _ L;refine O _ _ (⟨a,b,c,f,g,i,j⟩) ?_
 try simp only[Act.put,PU]
 clear a b c r s u v y z k m o q f g i j;refine VB ?_;have S:=Blk.new R 134 #[pq d,ii B,ii 8,ii 24,ii 1,ii 1,pq J,.pointer none,pq mm,ii 1,ii 1,zz,zz,zz,ii 1,zz,.slice C P D,.slice E P H];have I:=(Keep.refl [] R).alloc (.cells #[pq d,ii B,ii 8,ii 24,ii 1,ii 1,pq J,.pointer none,pq mm,ii 1,ii 1,zz,zz,zz,ii 1,zz,.slice C P D,.slice E P H] 134);go_wp2_with fail;replace I:=L.tO I;generalize R.alloc (.cells #[pq d,ii B,ii 8,ii 24,ii 1,ii 1,pq J,.pointer none,pq mm,ii 1,ii 1,zz,zz,zz,ii 1,zz,.slice C P D,.slice E P H] 134)=w5 at *;have ah:w.heap.size<=R.heap.size:=(aa.tO L).size;generalize R.heap.size=sb at *;have V:kz w5 w5.drew:=kq.drew;obtain⟨r,s,u,v,y,z,k,m,o,q,f,g,i,j⟩:=M _ (I.tO V);obtain⟨a,b,c⟩:=N _ (I.tO V);have t6:w5.drew.cell? (aq sb 6)=some (.pointer (some J)):=uq ((S.kO V).cell 6)
 refine ZT (fun w'=>cl w' w.heap.size B/\cl w' (aq w.heap.size 1) (ii 8)/\cl w' (aq w.heap.size 2) (ii 24)/\cl w' (aq rg 6) zz/\cl w' (aq rg 7) zz/\cl w' (aq rg 8) (ii 1)/\cl w' (aq rg 9) zz/\cl w' (aq rg 10) (ii 1)/\cl w' (aq sb 6) (pq J)) 10 [[0,1,2,3,4,5,6,7,8],[9]] ⟨a,b,c,k,m,o,q,f,t6⟩ ?_;simp only[PI];iterate 9 refine wG ?_
 clear a b c r s u v y z k m o q f g i j;refine JB rq fun K O=>?_;go_wp2_with (refine(a5 _ _).mono ?_;clear a5;rintro e w6 ⟨xw,rfl,A⟩);replace A:=V.tO A;obtain⟨r,s,u,v,y,z,k,m,o,q,f,g,i,j⟩:=M _ (I.tO A);obtain⟨a,b,c⟩:=N _ (I.tO A);have t6:cl w6 (aq sb 6) (pq J):=uq ((S.kO A).cell 6)
 refine O _ _ (⟨a,b,c,k,m,o,q,f,t6⟩) ?_
 try simp only[Act.put,PU]
 clear a b c r s u v y z k m o q f g i j;refine VB ?_;have t7:cl w6 (aq sb 7) (.pointer none):=uq ((S.kO A).cell 7)
 have f7:=(S.kO A).frozen 7;have aj:=(S.kO A).lt;go_wp2_with fail;go_ret2;exact⟨sb,rfl,(aa.tO (I.tO A)).setCell (p:=⟨sb,7,none⟩) (.inr ah) _⟩
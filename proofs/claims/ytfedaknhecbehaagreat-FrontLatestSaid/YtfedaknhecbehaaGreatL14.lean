/- Lemmas of the proof, with their conditions. -/
import Derived.Test.YtfedaknhecbehaaGreatL13
import Derived.Deep.Cut
namespace Go.Proofs.YtfedaknhecbehaaGreat
open Tryz Go.RowKit
variable {b o:Nat} {W:World}
set_option linter.all false
set_option maxHeartbeats 2000000
set_option maxRecDepth 20000
def VAT (s:List UInt8) (l:List (Nat×List UInt8)):List UInt8:=l.foldl (fun s p=>laid s (p.1*64) p.2) s
theorem KAW (s:List UInt8) (l:List (Nat×List UInt8)) (p:Nat×List UInt8):VAT s (l++[p])=laid (VAT s l) (p.1*64) p.2:=by simp[VAT]
def PDisk.flush (D:PDisk):PDisk:={ D with acts:=D.acts+1,safe:=VAT D.safe D.held,held:=[] }
theorem XAJ (l:List (Nat×List UInt8)) (h:∀ p∈l,p.2.length=64):(l.flatMap Vb).length=l.length*65:=by
 induction l with
 | nil=>rfl
 | cons p l ih=>rw[At,AE,ih (fun q a=>h q (Av _ a))];simp[Vb,h p Cf];omega
theorem JAj (l:List (Nat×List UInt8)) (h:∀ p∈l,p.2.length=64) (i:Nat) (hi:i<l.length):seg 65 (l.flatMap Vb) i=Vb l[i]:=by
 induction l generalizing i with
 | nil=>simp at hi
 | cons p l ih=>
   have a:(Vb p).length=65:=by simp[Vb,h p Cf]
   cases i with
   | zero=>
     unfold seg;rw[Cg,DD,At,DJ,AH Z,a]
     simp
   | succ i=>
     have:=ih (fun q b=>h q (Av _ b)) i (uq hi);unfold seg at this ⊢;rw[At,Ch,CJ,BM Z,Ad,a,show i*65+65-65=i*65 from Z,this];rfl
theorem XBM (p:Nat×List UInt8):∀ u∈Vb p,u.oneCell'=true:=by
 intro u a;rcases AM.1 a with rfl | a
 . rfl
 exact Zi _ u a
theorem isRow_write:∃ fs,prog.underlying 292=some (.struct fs):=⟨_,underlying292⟩
theorem QAr {cs:List Value} (a:cs.length=65) (h:W.rangeAt b o cs):(Instr.loadAt 292 (.pointer (some (aq b o)))).run prog W=.ok (.agg cs.toArray) W:=by
 obtain⟨fs,c⟩:=isRow_write;exact run_loadAt_mid W b o 292 cs _ h c rfl (by rw[a];kernel_rfl)
theorem QAX (cs:List Value) (a:cs.length=65) (c:∀ u∈cs,u.oneCell'=true) (h:W.there b o 65):(Instr.storeAt 292 (.pointer (some (aq b o))) (.agg cs.toArray)).run prog W=.ok () (W.setCells b o cs):=
 DZ W b o 292 cs.toArray (by simpa [a] using h) (by rw[As,a];kernel_rfl) (DB c)
theorem Vp {w:World} {base d:Nat} {F:List Nat} {D:PDisk} (h:DiskAt w base d F D) (Q:D.off=false) (R:D.fuse = -1) (T:D.acts<=1000000000) (ac:base<=w.heap.size) :
 Calls prog 96 #[pq d] w fun e w'=>e=.returned zz/\∃ F',DiskAt w' base d F' D.flush/\Keep F w w'/\Grow w F F':=by
 obtain⟨S,N,H,U,h⟩:=h;obtain⟨g,r,rfl,ad,ae⟩:=JE h.safe h.pos;have E:=XBZ h Q R T;go_enter func96,ntmps96;go_wp2_with (refine E.mono ?_;clear E;rintro e w1 ⟨rfl,k,V⟩;obtain⟨af,ag,c2,ah,c4,c5,c6⟩:=JL k.blk;have G:w1.ownsRow base 292 65 H D.held.length (D.held.flatMap Vb):=k.held;obtain⟨I,t,rfl,_⟩:=ZB G;clear G);go_loopw [5,18] (fun _ i wr=>∃ (m:Nat) (S':List UInt8),m<=D.held.length/\i=.int .i64 m/\S'=VAT D.safe (D.held.take m)/\DiskIs wr base d (.slice (some g) D.n r) N (.slice I D.held.length t) U F { D.act with safe:=S' }/\Keep F w wr) (fun _ i _=>D.held.length-(intOf i).toNat)
 case atStart=>exact⟨0,_,AS _,rfl,rfl,k,V.sub (by rw[h.foot];simp)⟩
 obtain⟨m,S',hm,rfl,v,f,J⟩:=hrel;by_cases l:m<D.held.length
 . have K:wr.ownsRow base 292 65 (.slice I D.held.length t) D.held.length (D.held.flatMap Vb):=f.held
   obtain⟨L,ai,y,aj,ak⟩:=JE K Z;injection y with y _ he2;subst y he2;have al:((m:Nat):Int)<(D.held.length:Nat):=Z;have am:=XAJ D.held (fun p j=>(h.ats p j).2);have j:=h.ats D.held[m] (AQ l);have z:(Vb D.held[m]).length=65:=by simp[Vb,j.2]
   have M:=KAQ K l;rw[JAj _ (fun p j=>(h.ats p j).2) m l] at M
   go_upto_region 8 with fail
   refine wp_region_lit ?_;refine Vq rfl (Vt _ _ _ rfl _ _ rfl rfl (Jf underlying183 (s:=65) (by kernel_rfl) L 0 D.held.length t m l _)) ?_;simp only[Act.put,PU];rw[A6];refine YBO rfl _ _ rfl _ rfl (QAr z M) ?_;simp only[Act.put,PU];refine KAx rfl _ rfl (.agg ((.int .i64 0 :: List.replicate 64 (.int .u8 0)).toArray)) (by kernel_rfl) ?_;simp only[Act.put,PU];have O:=Blk.new wr 292 (Value.agg ((.int .i64 0 :: List.replicate 64 (.int .u8 0)).toArray)).cells;refine Jz rfl _ _ _ rfl _ _ rfl rfl (QAX (Vb D.held[m]) z (XBM _) (Ji O 65 (by simp[Value.cells]))) ?_;simp only[Act.put,PU];have A:=O.all (Vb D.held[m]) (by simp[z,Value.cells]);have B:kz wr ((wr.alloc (.cells (Value.agg ((.int .i64 0 :: List.replicate 64 (.int .u8 0)).toArray)).cells 292)).setCells wr.heap.size 0 (Vb D.held[m])):=Keep.setCells _ _ (kq.alloc _) (.inr (AG _));obtain⟨b,C⟩:=ex wr.heap.size;rw[<- C] at A B ⊢;have an:=JB C;clear C;generalize (wr.alloc (.cells (Value.agg ((.int .i64 0 :: List.replicate 64 (.int .u8 0)).toArray)).cells 292)).setCells b 0 (Vb D.held[m])=w2 at *;have c:=f.kO B;obtain⟨X,j1,j2,j3,j4,j5,j6⟩:=JL c.blk;have Y:cl w2 (aq b 0) (.int .i64 D.held[m].1):=by rw[A.cell];simp[Vb]
   have a0:w2.rangeAt b 1 (bys D.held[m].2):=by
    have:=KBB A.range 1 64;rw[List.toList_toArray,Vb,DG,DD,AH (by simp[j.2]),A6] at this;exact this
   go_wp2_with fail;refine ZT (fun w'=>cl w' d (.slice (some g) D.n r)/\cl w' (aq b 0) (.int .i64 D.held[m].1)/\(Instr.loadAt 290 (.pointer (some (aq b 1)))).run prog w'=.ok (.agg (bys D.held[m].2).toArray) w') 8 [[0,1,2,3,4,5,6,7]] ⟨X,Y,YAH _ j.2 a0⟩ ?_;simp only[PI];iterate 7 refine wG ?_
   refine ZU _ rq (fun W a1=>Ko _ _ rfl _ rfl a1.2.2) ?_
   try simp only[Act.put,PU]
   refine KB ?_;refine Vq rfl (Vt _ _ _ rfl _ _ rfl rfl (Jf underlying182 (s:=64) (by kernel_rfl) g 0 D.n r D.held[m].1 j.1 _)) ?_;simp only[Act.put,PU];refine Jz rfl _ _ _ rfl _ _ rfl rfl (XAA (b:=g) _ j.2 (uq (ZAQ c.safe.drew j.1))) ?_;simp only[Act.put,PU];rw[A6];have a2:g≠d:=fun e=>c.dS (by simp[Value.ownBlock,e]);have n:Keep [g] w2 (w2.drew.setCells g (D.held[m].1*64) (bys D.held[m].2)):=Keep.setCells _ _ kq.drew (.inl sq);have P:=QAF c.safe.drew j.1 (ys:=bys D.held[m].2) (by simp[j.2]);rw[YAT] at P;have a3:∀ x,N.ownBlock=some x->x∉[g]:=fun x a=>by simp;rintro rfl;exact c.ne (by simpa [Value.ownBlock] using a.symm)
   have a4:=c.ne;have o:=c.foot
   have a5:DiskIs (w2.drew.setCells g (D.held[m].1*64) (bys D.held[m].2)) base d (.slice (some g) D.n r) N (.slice (some L) D.held.length t) U F { D.act with safe:=laid S' (D.held[m].1*64) D.held[m].2 }:=
    ⟨c.blk.keep n (by simpa using fun e=>a2 e.symm),P,XB c.now n a3,XB c.held n (fun x a=>by simp;rintro rfl;exact own_ne c.safe c.held (by decide) rfl a),XB c.flt n (fun x a=>by simp;rintro rfl;exact own_ne c.safe c.flt (by decide) rfl a),
      a4,o,c.base,c.pos,c.few,c.ats,c.acts⟩
   have a6:Keep F w (w2.drew.setCells g (D.held[m].1*64) (bys D.held[m].2)):=(J.tO B).trans (n.sub (m:=F) (by intro x a;simp at a;subst a;rw[o];simp[Value.ownBlock])) (fun x a=>.inl a);generalize w2.drew.setCells g (D.held[m].1*64) (bys D.held[m].2)=w4 at *;go_wp2_with fail;go_roundw;case rel=>exact⟨m+1,_,Z,by go_num,by rw[AO l,KAW,<- v],a5,a6⟩
   case measure=>simp[intOf];omega
 obtain rfl:m=D.held.length:=Z;have ao:=f.blk.frozen 2;have k2:=(JL f.blk).2.2.1;have u:Keep [d] wr (wr.setCell (aq d 2) (.slice none 0 0)):=kq.sc d 2;have a7:=f.blk.set 2 (.slice none 0 0);have a8:=JB f.foot;have a9:=XB f.safe u (fun x a=>by simp;rintro rfl;exact f.dS (uq a));have aa:=XB f.now u (fun x a=>by simp;rintro rfl;exact f.dN (uq a));have ab:=XB f.flt u (fun x a=>by simp;rintro rfl;exact f.dU (uq a));go_wp2_with fail;go_ret;have o:=JA a8;rw[List.take_length] at v;subst v;refine⟨rfl,_,⟨_,_,_,_,by simpa [PDisk.flush,PDisk.act] using a7,a9,aa,Ab _ _ _ _,ab,f.ne,rfl,f.base,f.pos,f.few,by simp[PDisk.flush],by simp[PDisk.flush]⟩,J.trans (u.sub (by rw[o];simp)) (fun x a=>.inl a),?_⟩;intro x a;left;rw[o];simp only[AM,AD] at a ⊢;rcases a with k | k | k | k | k <;> first | (simp[Value.ownBlock] at k;done) | (simp[k];done)
section
variable (w:World) (base d:Nat) (F:List Nat) (D:PDisk)
theorem Ku (h:DiskAt w base d F D):cq 134 #[pq d] w (.bool D.off):=by
 obtain⟨S,N,H,U,h⟩:=h;obtain⟨a,b,c,e,f,g,i⟩:=JL h.blk;go_enter func134,ntmps134
 go_wp2
 go_ret;exact⟨rfl,rfl⟩
theorem QAA (h:DiskAt w base d F D):cq 282 #[pq d] w D.n:=by
 obtain⟨S,N,H,U,h⟩:=h;obtain⟨g,a,rfl,b,c⟩:=JE h.now h.pos;obtain⟨e,f,i,j,k,l,m⟩:=JL h.blk;go_enter func282,ntmps282
 go_wp2
 go_ret;exact⟨rfl,rfl⟩
theorem Zf (h:DiskAt w base d F D) (f:D.off=false) (k:Nat) (a:k<D.n) (i:D.faults[k]? = some false) :
 Calls prog 327 #[pq d,k] w fun e w'=>∃ u,e=.returned (.tuple #[u,zz])/\w'.ownsRow w.heap.size 5 1 u 64 (bys (seg 64 D.now k))/\kz w w':=by
 obtain⟨S,N,H,U,h⟩:=h;obtain⟨g,s,rfl,t,v⟩:=JE h.now h.pos;obtain⟨j,y,rfl,z,A⟩:=JE h.flt h.pos;obtain⟨B,C,E,G,I,J,l⟩:=JL h.blk;rw[f] at l;have m:=ZBE h k a;have K:((k:Nat):Int)<(D.n:Nat):=Z;have L:cl w (aq j k) (.bool false):=QJ h.flt (by rw[Aa,i];rfl);have b:=KAQ h.now a;rw[VAK] at b;have n:=length_seg 64 D.now k (by have:=h.len.1;omega);have o:Rd w (some (aq g (k*64))) 64 (bys (seg 64 D.now k)):=⟨by simp[n],fun _=>⟨g,k*64,rfl,Jq h.now g (by simp[Value.ownBlock]),b⟩⟩;have c:=JX 64 _ o Z;go_enter func327,ntmps327;go_wp2_with (first | (apply mq m) | (refine c.mono ?_;clear c;rintro e w1 ⟨u,rfl,p,r,_⟩));go_ret2;exact⟨_,rfl,p,r⟩
end
def PDisk.new (n:Nat):PDisk:=⟨n,List.replicate (n*64) 0,List.replicate (n*64) 0,[],List.replicate n false,-1,0,false⟩
theorem elemBlock:ElemN prog 182 290 (.agg (Array.replicate 64 (.int .u8 0))) 64 64:=ElemN.of underlying182 (by kernel_rfl) (by simp[Value.cells]) Z
theorem elemBool:ElemN prog 184 4 (.bool false) 1 1:=ElemN.of underlying184 (by kernel_rfl) rfl Z
theorem YP {w:World} {base g n s m:Nat} {e:TypeId} {z:Value} {xs:List Value} (h:Blk w g e (madeCells (Array.replicate s z) (n*s))) (a:0<s) (b:base<=g) (c:n<=9223372036854775807) (d:xs=List.replicate (n*s) z) (f:m=n) :
 w.ownsRow base e s (.slice (some g) m m) m xs:=by
 subst f;rw[Xp _ _ _ a] at h;subst d;exact⟨sq,.inr ⟨g,m,_,rfl,b,h,AG _,by simpa [maxLen] using c,sq,sq⟩⟩
theorem YBf (n:Nat) (m:0<n) (o:n<=4096) (w:World) :
 Calls prog 171 #[n] w fun e w'=>∃ d F,e=.returned (.tuple #[pq d,zz])/\DiskAt w' w.heap.size d F (PDisk.new n)/\kz w w':=by
 go_enter func171,ntmps171;go_wp2_with fail;refine ZR (fun w'=>kz w w') 6 (.held 0 (.held 2 (.held 4 (.three 1 (.two 3 (.loud 5 .nil) 5 (.loud 3 .nil)) 3 (.two 1 (.loud 5 .nil) 5 (.loud 1 .nil)) 5 (.two 1 (.loud 3 .nil) 3 (.loud 1 .nil)))))) kq.drew ?_;simp only[RT.pick,PJ];iterate 3 refine wW ?_
 refine wpR_three ?_ ?_ ?_
 all_goals
  refine wpR_loud rq fun K b=>?_
  first
   | refine elemBlock.wp1_make _ _ rfl .i64 .i64 n rfl rfl Z Z ?_
   | refine elemBool.wp1_make _ _ rfl .i64 .i64 n rfl rfl Z Z ?_
  intro w1 g h p i a;replace a:=(Keep.refl [] w).drew.tO a;refine b _ _ (a) ?_
  try simp only[Act.put,PU]
  refine wpR_two ?_ ?_
 all_goals
  refine wpR_loud rq fun K b=>?_
  first
   | refine elemBlock.wp1_make _ _ rfl .i64 .i64 n rfl rfl Z Z ?_
   | refine elemBool.wp1_make _ _ rfl .i64 .i64 n rfl rfl Z Z ?_
  intro D j r t k c;refine b _ _ (a.tO c) ?_
  try simp only[Act.put,PU]
  refine wpR_loud rq fun K b=>?_
  first
   | refine elemBlock.wp1_make _ _ rfl .i64 .i64 n rfl rfl Z Z ?_
   | refine elemBool.wp1_make _ _ rfl .i64 .i64 n rfl rfl Z Z ?_
  intro u v y A E f;refine b _ _ ((a.tO c).tO f) ?_
  try simp only[Act.put,PU]
  refine wpR_nil ?_;replace i:=(i.kO c).kO f;replace k:=k.kO f;have B:=a.size;have l:kz w u:=(a.tO c).tO f;have C:w.heap.size<=g/\g<j/\j<v:=by simp at h;omega
  clear a c f h r y p t A B;obtain⟨G,H,I⟩:=C;go_wp2_with fail;go_ret2
  refine⟨_,_,rfl,⟨_,_,_,_,⟨Blk.new _ _ _,KD (YP (e:=290) (s:=64) (z:=.int .u8 0) (by assumption) Z Z (by show n<=_;omega) (by simp[bys,by8,PDisk.new]) rfl) _,KD (YP (e:=290) (s:=64) (z:=.int .u8 0) (by assumption) Z Z (by show n<=_;omega) (by simp[bys,by8,PDisk.new]) rfl) _,Ab _ _ _ _,
   KD (YP (e:=4) (s:=1) (z:=.bool false) (by assumption) Z Z (by show n<=_;omega) (by simp[PDisk.new]) rfl) _,by simp[Value.ownBlock];omega,rfl,l.size,m,o,by simp[PDisk.new],by simp[PDisk.new]⟩⟩,l.alloc _⟩
def Ju (bs:List UInt8) (p n:Nat):List UInt8:=(List.range n).flatMap (fun i=>seg 64 bs (p+i))
theorem Xf (bs:List UInt8) (p n:Nat):Ju bs p (n+1)=Ju bs p n++seg 64 bs (p+n):=by
 unfold Ju;rw[CF,Az,At,List.flatMap_nil,Ba]
theorem QAL (bs:List UInt8) (p n m:Nat) (a:bs.length=m*64) (h:p+n<=m):(Ju bs p n).length=64*n:=by
 induction n with
 | zero=>rfl
 | succ n ih=>rw[Xf,AE,ih Z,length_seg 64 bs (p+n) (by rw[a];exact A3 _ Z)];omega
theorem QBU {w:World} {f d base:Nat} {F:List Nat} {D:PDisk} {cs:Array Value} (E:Blk w f 406 cs) (c:cs[0]? = some (.pointer (some d))) (h:DiskAt w base d F D) (G:D.off=false) (o:∀ k,k<D.n->D.faults[k]? = some false) (p n:Nat) (O:p+n<=D.n) (P:n<=8) :
 Calls prog 401 #[pq f,p,n] w fun e w'=>∃ u,e=.returned (.tuple #[u,zz])/\w'.ownsRow w.heap.size 5 1 u (64*n) (bys (Ju D.now p n))/\kz w w':=by
 have g:D.now.length=D.n*64:=by obtain⟨_,_,_,_,c⟩:=h;exact c.len.1
 have Q:D.n<=4096:=by obtain⟨_,_,_,_,c⟩:=h;exact c.few
 have r:=fun(k:Nat) (a:k<D.n) W (b:kz w W)=>Zf W base d F D (h.kO b) G k a (o k a);have s:=fun k (a:k<D.n)=>length_seg 64 D.now k (by rw[g];exact A3 _ a);have t:=fun k (a:p+k<=D.n)=>QAL D.now p k D.n g a;have y:=fun k=>Xf D.now p k;clear g;go_enter func401,ntmps401;go_wp2_with fail;go_loopw [6,8,9,10,12] (fun u _ _ _ i wr=>∃ k:Nat,k<=n/\i=.int .i64 k/\wr.ownsRow w.heap.size 5 1 u (64*k) (bys (Ju D.now p k))/\kz w wr) (fun _ _ _ _ i _=>n-(intOf i).toNat)
 case atStart=>exact⟨0,AS _,rfl,Ab _ _ _ _,kq⟩
 obtain⟨k,a,rfl,j,b⟩:=hrel;by_cases R:k<n
 . have T:((k:Nat):Int)<(n:Nat):=Z
   have H:cl wr f (pq d):=(E.kO b).cell 0 |>.trans c;have l:=r (p+k) Z wr b;rw[BO] at l;have z:=s (p+k) Z;have A:=t k Z;have I:=JB (y k);generalize seg 64 D.now (p+k)=sg at *;generalize Ju D.now p k=S at *;obtain⟨U,V,rfl,_⟩:=ZB j;have X:=JB z;have Y:=JB A;clear z A s t y r o
   go_wp2_with (first
    | (go_at_call 327
       refine l.mono ?_;clear l H;rintro e w2 ⟨v,rfl,B,m⟩;obtain⟨J,K,rfl,_⟩:=QN B Z
       have C:=QB j m)
    | (at_builtin
       refine elem8.wp_app rfl _ _ rfl w.heap.size _ (64*k) (bys S) rfl C (some J) 64 K (bys sg) rfl (Rd.of_own B) (Zi _) Z Z (by have:=b.size;have:=m.size;omega) ?_;intro a0 w3 L M _ _))
   go_roundw
   case rel=>
    refine⟨k+1,Z,by go_num,?_,(b.tO m).trans M (fun x N=>.inr (own_mem C N).1)⟩;rw[JA I,Qj];exact L
   case measure=>simp[intOf];omega
 obtain rfl:k=n:=Z;go_wp2_with fail;go_ret2;exact⟨_,rfl,j,b⟩
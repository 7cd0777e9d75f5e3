/- Lemmas of the proof, with their conditions. -/
import Derived.Test.YtfedaknhecbehaaGreatM12
import Derived.Deep.Cut
namespace Go.Proofs.YtfedaknhecbehaaGreat
open Tryz Go.RowKit
variable {b o:Nat} {W:World}
set_option linter.all false
set_option maxHeartbeats 2000000
set_option maxRecDepth 20000
def XAO (s:List UInt8) (l:List (Nat×List UInt8)):List UInt8:=l.foldl (fun s p=>laid s (p.1*64) p.2) s
theorem KAW (s:List UInt8) (l:List (Nat×List UInt8)) (p:Nat×List UInt8):XAO s (l++[p])=laid (XAO s l) (p.1*64) p.2:=by simp[XAO]
def PDisk.flush (D:PDisk):PDisk:={ D with acts:=D.acts+1,safe:=XAO D.safe D.held,held:=[] }
theorem KAI (l:List (Nat×List UInt8)) (h:∀ p∈l,p.2.length=64):(l.flatMap YZ).length=l.length*65:=by
 induction l with
 | nil=>rfl
 | cons p l ih=>rw[BE,AE,ih (fun q a=>h q (Ak _ a))];simp[YZ,h p CS];omega
theorem KAi (l:List (Nat×List UInt8)) (h:∀ p∈l,p.2.length=64) (i:Nat) (hi:i<l.length):seg 65 (l.flatMap YZ) i=YZ l[i]:=by
 induction l generalizing i with
 | nil=>simp at hi
 | cons p l ih=>
   have a:(YZ p).length=65:=by simp[YZ,h p CS]
   cases i with
   | zero=>
     unfold seg;rw[DL,Dm,BE,DO,AK Z,a]
     simp
   | succ i=>
     have:=ih (fun q b=>h q (Ak _ b)) i (uq hi);unfold seg at this ⊢;rw[BE,Cf,CH,BL Z,Am,a,show i*65+65-65=i*65 from Z,this];rfl
theorem KAn (p:Nat×List UInt8):∀ u∈YZ p,u.oneCell'=true:=by
 intro u a;rcases AL.1 a with rfl | a
 . rfl
 exact Xk _ u a
theorem isRow_write:∃ a,prog.underlying 292=some (.struct a):=⟨_,underlying292⟩
theorem XAi {cs:List Value} (a:cs.length=65) (h:W.rangeAt b o cs):(Instr.loadAt 292 (.pointer (some (aq b o)))).run prog W=.ok (.agg cs.toArray) W:=by
 obtain⟨d,c⟩:=isRow_write;exact EG W b o 292 cs _ h c rfl (by rw[a];kernel_rfl)
theorem VAT (cs:List Value) (a:cs.length=65) (c:∀ u∈cs,u.oneCell'=true) (h:W.there b o 65):(Instr.storeAt 292 (.pointer (some (aq b o))) (.agg cs.toArray)).run prog W=.ok () (W.setCells b o cs):=
 Da W b o 292 cs.toArray (by simpa [a] using h) (by rw[Ay,a];kernel_rfl) (DC c)
theorem Xt {w:World} {base d:Nat} {F:List Nat} {D:PDisk} (h:DiskAt w base d F D) (Q:D.off=false) (R:D.fuse = -1) (T:D.acts<=1000000000) (ac:base<=w.heap.size) :
 Calls prog 96 #[pq d] w fun e w'=>e=.returned zz/\∃ C,DiskAt w' base d C D.flush/\Keep F w w'/\Grow w F C:=by
 obtain⟨S,N,H,U,h⟩:=h;obtain⟨g,q,rfl,ad,ae⟩:=YD h.safe h.pos;have E:=KBT h Q R T;go_enter func96,ntmps96;go_wp2_with (refine E.mono ?_;clear E;rintro e w1 ⟨rfl,k,V⟩;obtain⟨af,ag,c2,ah,c4,c5,c6⟩:=QL k.blk;have G:w1.ownsRow base 292 65 H D.held.length (D.held.flatMap YZ):=k.held;obtain⟨I,r,rfl,_⟩:=XB G;clear G);go_loopw [5,18] (fun _ i wr=>∃ (m:Nat) (S':List UInt8),m<=D.held.length/\i=.int .i64 m/\S'=XAO D.safe (D.held.take m)/\DiskIs wr base d (.slice (some g) D.n q) N (.slice I D.held.length r) U F { D.act with safe:=S' }/\Keep F w wr) (fun _ i _=>D.held.length-(intOf i).toNat)
 case atStart=>exact⟨0,_,AP _,rfl,rfl,k,V.sub (by rw[h.foot];simp)⟩
 obtain⟨m,S',hm,rfl,u,f,J⟩:=hrel;by_cases l:m<D.held.length
 . have K:wr.ownsRow base 292 65 (.slice I D.held.length r) D.held.length (D.held.flatMap YZ):=f.held
   obtain⟨L,ai,v,aj,ak⟩:=YD K Z;injection v with v _ he2;subst v he2;have al:((m:Nat):Int)<(D.held.length:Nat):=Z
   have am:=KAI D.held (fun p j=>(h.ats p j).2);have j:=h.ats D.held[m] (AN l);have y:(YZ D.held[m]).length=65:=by simp[YZ,j.2]
   have M:=VAQ K l;rw[KAi _ (fun p j=>(h.ats p j).2) m l] at M
   go_upto_region 8 with fail
   refine wp_region_lit ?_;refine Jl rfl (Xo _ _ _ rfl _ _ rfl rfl (Zd underlying183 (s:=65) (by kernel_rfl) L 0 D.held.length r m l _)) ?_;simp only[Act.put,PU];rw[BB];refine XBO rfl _ _ rfl _ rfl (XAi y M) ?_;simp only[Act.put,PU];refine VBB rfl _ rfl (.agg ((.int .i64 0 :: List.replicate 64 (.int .u8 0)).toArray)) (by kernel_rfl) ?_;simp only[Act.put,PU];have O:=Blk.new wr 292 (Value.agg ((.int .i64 0 :: List.replicate 64 (.int .u8 0)).toArray)).cells;refine Va rfl _ _ _ rfl _ _ rfl rfl (VAT (YZ D.held[m]) y (KAn _) (KY O 65 (by simp[Value.cells]))) ?_;simp only[Act.put,PU];have z:=O.all (YZ D.held[m]) (by simp[y,Value.cells]);have A:kz wr ((wr.alloc (.cells (Value.agg ((.int .i64 0 :: List.replicate 64 (.int .u8 0)).toArray)).cells 292)).setCells wr.heap.size 0 (YZ D.held[m])):=Keep.setCells _ _ (kq.alloc _) (.inr (AG _));obtain⟨b,B⟩:=ex wr.heap.size;rw[<- B] at z A ⊢;have an:=ZB B;clear B;generalize (wr.alloc (.cells (Value.agg ((.int .i64 0 :: List.replicate 64 (.int .u8 0)).toArray)).cells 292)).setCells b 0 (YZ D.held[m])=w2 at *;have c:=f.kO A;obtain⟨X,j1,j2,j3,j4,j5,j6⟩:=QL c.blk;have Y:cl w2 (aq b 0) (.int .i64 D.held[m].1):=by rw[z.cell];simp[YZ]
   have a0:w2.rangeAt b 1 (bys D.held[m].2):=by
    have:=ZAu z.range 1 64;rw[List.toList_toArray,YZ,DH,Dm,AK (by simp[j.2]),BB] at this;exact this
   go_wp2_with fail;refine ZT (fun w'=>cl w' d (.slice (some g) D.n q)/\cl w' (aq b 0) (.int .i64 D.held[m].1)/\(Instr.loadAt 290 (.pointer (some (aq b 1)))).run prog w'=.ok (.agg (bys D.held[m].2).toArray) w') 8 [[0,1,2,3,4,5,6,7]] ⟨X,Y,JAE _ j.2 a0⟩ ?_;simp only[PI];iterate 7 refine wG ?_
   refine XV _ rq (fun W a1=>Xf _ _ rfl _ rfl a1.2.2) ?_
   try simp only[Act.put,PU]
   refine VB ?_;refine Jl rfl (Xo _ _ _ rfl _ _ rfl rfl (Zd underlying182 (s:=64) (by kernel_rfl) g 0 D.n q D.held[m].1 j.1 _)) ?_;simp only[Act.put,PU];refine Va rfl _ _ _ rfl _ _ rfl rfl (Yv (b:=g) _ j.2 (uq (XAQ c.safe.drew j.1))) ?_;simp only[Act.put,PU];rw[BB];have a2:g≠d:=fun e=>c.dS (by simp[Value.ownBlock,e]);have n:Keep [g] w2 (w2.drew.setCells g (D.held[m].1*64) (bys D.held[m].2)):=Keep.setCells _ _ kq.drew (.inl sq);have P:=JAD c.safe.drew j.1 (ys:=bys D.held[m].2) (by simp[j.2]);rw[ZAL] at P;have a3:∀ x,N.ownBlock=some x->x∉[g]:=fun x a=>by simp;rintro rfl;exact c.ne (by simpa [Value.ownBlock] using a.symm)
   have a4:=c.ne;have o:=c.foot
   have a5:DiskIs (w2.drew.setCells g (D.held[m].1*64) (bys D.held[m].2)) base d (.slice (some g) D.n q) N (.slice (some L) D.held.length r) U F { D.act with safe:=laid S' (D.held[m].1*64) D.held[m].2 }:=
    ⟨c.blk.keep n (by simpa using fun e=>a2 e.symm),P,KA c.now n a3,KA c.held n (fun x a=>by simp;rintro rfl;exact own_ne c.safe c.held (by decide) rfl a),KA c.flt n (fun x a=>by simp;rintro rfl;exact own_ne c.safe c.flt (by decide) rfl a),
      a4,o,c.base,c.pos,c.few,c.ats,c.acts⟩
   have a6:Keep F w (w2.drew.setCells g (D.held[m].1*64) (bys D.held[m].2)):=(J.tO A).trans (n.sub (m:=F) (by intro x a;simp at a;subst a;rw[o];simp[Value.ownBlock])) (fun x a=>.inl a);generalize w2.drew.setCells g (D.held[m].1*64) (bys D.held[m].2)=w4 at *;go_wp2_with fail;go_roundw;case rel=>exact⟨m+1,_,Z,by go_num,by rw[AO l,KAW,<- u],a5,a6⟩
   case measure=>simp[intOf];omega
 obtain rfl:m=D.held.length:=Z
 have ao:=f.blk.frozen 2;have k2:=(QL f.blk).2.2.1;have t:Keep [d] wr (wr.setCell (aq d 2) (.slice none 0 0)):=kq.sc d 2;have a7:=f.blk.set 2 (.slice none 0 0);have a8:=ZB f.foot;have a9:=KA f.safe t (fun x a=>by simp;rintro rfl;exact f.dS (uq a));have aa:=KA f.now t (fun x a=>by simp;rintro rfl;exact f.dN (uq a));have ab:=KA f.flt t (fun x a=>by simp;rintro rfl;exact f.dU (uq a));go_wp2_with fail;go_ret;have o:=ZA a8;rw[List.take_length] at u;subst u;refine⟨rfl,_,⟨_,_,_,_,by simpa [PDisk.flush,PDisk.act] using a7,a9,aa,AZ _ _ _ _,ab,f.ne,rfl,f.base,f.pos,f.few,by simp[PDisk.flush],by simp[PDisk.flush]⟩,J.trans (t.sub (by rw[o];simp)) (fun x a=>.inl a),?_⟩;intro x a;left;rw[o];simp only[AL,AD] at a ⊢;rcases a with k | k | k | k | k <;> first | (simp[Value.ownBlock] at k;done) | (simp[k];done)
section
variable (w:World) (base d:Nat) (F:List Nat) (D:PDisk)
theorem YAD (h:DiskAt w base d F D):cq 134 #[pq d] w (.bool D.off):=by
 obtain⟨S,N,H,U,h⟩:=h;obtain⟨a,b,c,e,f,g,i⟩:=QL h.blk;go_enter func134,ntmps134
 go_wp2
 go_ret;exact⟨rfl,rfl⟩
theorem QAV (h:DiskAt w base d F D):cq 282 #[pq d] w D.n:=by
 obtain⟨S,N,H,U,h⟩:=h;obtain⟨g,a,rfl,b,c⟩:=YD h.now h.pos;obtain⟨e,f,i,j,k,l,m⟩:=QL h.blk;go_enter func282,ntmps282
 go_wp2
 go_ret;exact⟨rfl,rfl⟩
theorem XAG (h:DiskAt w base d F D) (i:D.off=false) (k:Nat) (a:k<D.n) (j:D.faults[k]? = some false) :
 Calls prog 327 #[pq d,k] w fun e w'=>∃ u,e=.returned (.tuple #[u,zz])/\w'.ownsRow w.heap.size 5 1 u 64 (bys (seg 64 D.now k))/\kz w w':=by
 obtain⟨S,N,H,U,h⟩:=h;obtain⟨g,r,rfl,s,t⟩:=YD h.now h.pos;obtain⟨l,v,rfl,y,z⟩:=YD h.flt h.pos;obtain⟨A,B,C,E,G,I,m⟩:=QL h.blk;rw[i] at m;have b:=XAs h k a;have J:((k:Nat):Int)<(D.n:Nat):=Z
 have K:cl w (aq l k) (.bool false):=YI h.flt (by rw[Aa,j];rfl);have c:=VAQ h.now a;rw[QAF] at c;have n:=length_seg 64 D.now k (by have:=h.len.1;omega);have o:Rd w (some (aq g (k*64))) 64 (bys (seg 64 D.now k)):=⟨by simp[n],fun _=>⟨g,k*64,rfl,Qi h.now g (by simp[Value.ownBlock]),c⟩⟩;have f:=KV 64 _ o Z;go_enter func327,ntmps327;go_wp2_with (first | (refine b.mono ?_;clear b;rintro e w' ⟨rfl,rfl⟩) | (refine f.mono ?_;clear f;rintro e w1 ⟨u,rfl,p,q,_⟩));go_ret2;exact⟨_,rfl,p,q⟩
end
def PDisk.new (n:Nat):PDisk:=⟨n,List.replicate (n*64) 0,List.replicate (n*64) 0,[],List.replicate n false,-1,0,false⟩
theorem elemBlock:ElemN prog 182 290 (.agg (Array.replicate 64 (.int .u8 0))) 64 64:=ElemN.of underlying182 (by kernel_rfl) (by simp[Value.cells]) Z
theorem elemBool:ElemN prog 184 4 (.bool false) 1 1:=ElemN.of underlying184 (by kernel_rfl) rfl Z
theorem JN {w:World} {base g n s m:Nat} {e:TypeId} {z:Value} {xs:List Value} (h:Blk w g e (madeCells (Array.replicate s z) (n*s))) (a:0<s) (b:base<=g) (c:n<=9223372036854775807) (d:xs=List.replicate (n*s) z) (f:m=n) :
 w.ownsRow base e s (.slice (some g) m m) m xs:=by
 subst f;rw[XT _ _ _ a] at h;subst d;exact⟨sq,.inr ⟨g,m,_,rfl,b,h,AG _,by simpa [maxLen] using c,sq,sq⟩⟩
theorem JBX (n:Nat) (m:0<n) (o:n<=4096) (w:World) :
 Calls prog 171 #[n] w fun e w'=>∃ d F,e=.returned (.tuple #[pq d,zz])/\DiskAt w' w.heap.size d F (PDisk.new n)/\kz w w':=by
 go_enter func171,ntmps171;go_wp2_with fail;refine ZR (fun w'=>kz w w') 6 (.held 0 (.held 2 (.held 4 (.three 1 (.two 3 (.loud 5 .nil) 5 (.loud 3 .nil)) 3 (.two 1 (.loud 5 .nil) 5 (.loud 1 .nil)) 5 (.two 1 (.loud 3 .nil) 3 (.loud 1 .nil)))))) kq.drew ?_;simp only[RT.pick,PJ];iterate 3 refine wW ?_
 refine wpR_three ?_ ?_ ?_
 all_goals
  refine wpR_loud rq fun K b=>?_
  first
   | refine elemBlock.wp1_make _ _ rfl .i64 .i64 n rfl rfl Z Z ?_
   | refine elemBool.wp1_make _ _ rfl .i64 .i64 n rfl rfl Z Z ?_
  intro w1 g h p i a;replace a:=(Keep.refl [] w).drew.tO a;refine b _ _ (a) ?_
  try simp only[Act.put,PU]
  refine wpR_two ?_ ?_
 all_goals
  refine wpR_loud rq fun K b=>?_
  first
   | refine elemBlock.wp1_make _ _ rfl .i64 .i64 n rfl rfl Z Z ?_
   | refine elemBool.wp1_make _ _ rfl .i64 .i64 n rfl rfl Z Z ?_
  intro C j q r k c;refine b _ _ (a.tO c) ?_
  try simp only[Act.put,PU]
  refine wpR_loud rq fun K b=>?_
  first
   | refine elemBlock.wp1_make _ _ rfl .i64 .i64 n rfl rfl Z Z ?_
   | refine elemBool.wp1_make _ _ rfl .i64 .i64 n rfl rfl Z Z ?_
  intro t u v y D f;refine b _ _ ((a.tO c).tO f) ?_
  try simp only[Act.put,PU]
  refine wpR_nil ?_;replace i:=(i.kO c).kO f;replace k:=k.kO f;have A:=a.size;have l:kz w t:=(a.tO c).tO f;have B:w.heap.size<=g/\g<j/\j<u:=by simp at h;omega
  clear a c f h q v p r y A;obtain⟨E,G,H⟩:=B;go_wp2_with fail;go_ret2
  refine⟨_,_,rfl,⟨_,_,_,_,⟨Blk.new _ _ _,XE (JN (e:=290) (s:=64) (z:=.int .u8 0) (by assumption) Z Z (by show n<=_;omega) (by simp[bys,by8,PDisk.new]) rfl) _,XE (JN (e:=290) (s:=64) (z:=.int .u8 0) (by assumption) Z Z (by show n<=_;omega) (by simp[bys,by8,PDisk.new]) rfl) _,AZ _ _ _ _,
   XE (JN (e:=4) (s:=1) (z:=.bool false) (by assumption) Z Z (by show n<=_;omega) (by simp[PDisk.new]) rfl) _,by simp[Value.ownBlock];omega,rfl,l.size,m,o,by simp[PDisk.new],by simp[PDisk.new]⟩⟩,l.alloc _⟩
/- Lemmas of the proof, with their conditions. -/
import Derived.Test.YtfedaknhecbehaaGreatL39
import Derived.Test.YtfedaknhecbehaaGreatL35
namespace Go.Proofs.YtfedaknhecbehaaGreat
open Tryz Go.RowKit Go.Shelf
variable {w w0:World} {d B f r s x b0 j:Nat} {F Fs Fx:List Nat} {S:PS} {oz:List (Value×POp)}
set_option linter.all false
set_option maxHeartbeats 4000000
set_option maxRecDepth 40000
def JAl (B:Nat) (D:PDisk):PDisk:=((D.write (6+4*pgs B) (List.replicate 64 0)).write 0 (VAP B 1 2)).flush
def PS.mounted (B:Nat) (D:PDisk) (od:List Bool):PS:=
 ⟨JAl B D,us0,List.replicate 8 0,⟨⟨0,0,1,0,2⟩,[],[]⟩,⟨List.replicate B 0,List.replicate (pgs B) false,List.replicate B (-1),od⟩,⟨1,1,0,0,0,2,1⟩,0,List.replicate (pgs B) 0,List.replicate (pgs B) 0⟩
theorem KBU {base:Nat} {D:PDisk} (h:DiskAt w base d F D) (o:D.off=false) (b0:D.fuse = -1) (N:D.acts<=8000000) (O:∀ k,k<D.n->D.faults[k]? = some false) (z:Fmt B D) (P:1<=B) (A:B<=64) (ce:base<=w.heap.size) :
 Calls prog 278 #[.pointer (some d)] w fun e w'=>∃ s,e=.returned (.tuple #[.pointer (some (aq s 0)),.int .i64 0]) /\
  ∃ F' od,StoreAt w' base s d F' B (PS.mounted B D od)/\Keep F w w'/\Grow w F F':=by
 have cf:=JD P A;have Q:=z.n;have b1:=(Keep.refl [] w).alloc (.cells #[.pointer (some d),.pointer none,.int .i64 0,.int .i64 0,.int .i64 0,.int .i64 0,.int .i64 0,.int .i64 0,.int .i64 0,.int .i64 0,.int .i64 0,.int .i64 0,.int .i64 0,.int .i64 0,.int .i64 0,.int .i64 0,.int .i64 0,.int .i64 0,.slice none 0 0,.slice none 0 0,.slice none 0 0,.int .i64 0,.pointer none,.pointer none,.int .i64 0,.int .i64 0,.int .i64 0,.int .i64 0,.int .i64 0,.int .i64 0,.int .i64 0,.int .i64 0,.int .i64 0,.int .i64 0,.int .i64 0,.int .i64 0,.int .i64 0,.int .i64 0,.int .i64 0] 406);have bv:=Blk.new w 406 #[.pointer (some d),.pointer none,.int .i64 0,.int .i64 0,.int .i64 0,.int .i64 0,.int .i64 0,.int .i64 0,.int .i64 0,.int .i64 0,.int .i64 0,.int .i64 0,.int .i64 0,.int .i64 0,.int .i64 0,.int .i64 0,.int .i64 0,.int .i64 0,.slice none 0 0,.slice none 0 0,.slice none 0 0,.int .i64 0,.pointer none,.pointer none,.int .i64 0,.int .i64 0,.int .i64 0,.int .i64 0,.int .i64 0,.int .i64 0,.int .i64 0,.int .i64 0,.int .i64 0,.int .i64 0,.int .i64 0,.int .i64 0,.int .i64 0,.int .i64 0,.int .i64 0];have l:=h.lt;have R:w.heap.size∉F:=fun c=>by have:=l _ c;omega
 have b2:=h.kO b1;have b3:=QBC w.heap.size bv b2 o O z P A R;go_enter func278,ntmps278
 go_wp2_with (first
  | (refine b3.mono ?_
     clear b3;rintro e w1 ⟨rfl,g,aa,a2,a3,ab⟩;have ac:=b2.keep ab (fun x b c=>by simp at c;subst c;exact R b)
     have b4:=XAj w.heap.size aa ac o O z a2)
  | (refine b4.mono ?_
     clear b4;rintro e w2 ⟨rfl,t,m,bw,Ft,n,BA,r,OA,u,S,T,U,a4,a5,b5,C,b6,ad,ae,af,V⟩;have cg:w.heap.size<w1.heap.size:=aa.lt;have E:=a5.ge;have G:=a4.ge;have v:w.heap.size∉n:=fun c=>by have:=E _ c;omega
     have ag:w.heap.size∉Ft:=fun c=>by have:=G _ c;omega
     have ah:g≠w.heap.size:=by simp at a3;omega
     have ai:=ac.keep V (fun x b c=>by simp at c;subst c;exact R b);have aj:=a2.keep V (uq ah);have W:g∉n:=fun c=>by have:=E _ c;have:=a2.lt;omega
     have H:Apart F n:=fun x b c=>by have:=E _ c;have:=l x b;omega
     have bx:cl w2 (aq w.heap.size 18) (.slice BA (pgs B) r):=uq (U.cell 18)
     have b7:=XAO U rfl rfl rfl ai o O Q aj false 0 rfl a5 rfl rfl (fun k hk=>uq (z.base k hk)) r (Rd.of_own ae) (fun a N c=>by have:=b6 a N;have:=C _ c;omega) v W H)
  | (refine b7.mono ?_
     clear b7 bx;rintro e w3 ⟨rfl,b8,I⟩;have a6:=U.keep I v;have ak:=ai.keep I H;have al:=aj.keep I W
     have b9:=XB af I (fun x b c=>by
      rcases OA with _ | a
      . simp[Value.ownBlock] at b
      simp[Value.ownBlock] at b;subst b;have:=ad a rfl;have:=C _ c;omega)
     have bz:cl w3 (aq w.heap.size 19) (.slice OA (pgs B) u):=uq (a6.cell 19)
     have ba:=XAO a6 rfl rfl rfl ak o O Q al true (-1) rfl b8 rfl rfl (fun k hk=>uq (z.over k hk)) u (Rd.of_own b9) (fun a N c=>by have:=ad a N;have:=C _ c;omega) v W H)
  | (refine ba.mono ?_
     clear ba bz;rintro e w4 ⟨rfl,bb,Y⟩;have bc:=a6.keep Y v;have am:=ak.keep Y H;have an:=al.keep Y W
     have bd:=VAb w.heap.size t BA OA r u S T _ bc bb am an o Q O (z.log _ (AG _) Z) v)
  | (refine bd.mono ?_
     clear bd;rintro e w5 ⟨rfl,od,ao,ap,a7⟩;have a8:Keep (w.heap.size :: n) w2 w5:=((I.trans Y (fun x b=>.inl b)).sub (fun x b=>Av _ b)).trans a7 (fun x b=>.inl b);have bf:=am.keep a7 (fun x b c=>by rcases AM.1 c with rfl | c;exact R b;exact H x b c);have ar:=an.keep a7 (by simpa using⟨ah,W⟩)
     have au:=a4.keep a8 (fun x b c=>by
      rcases AM.1 c with rfl | c
      . exact ag b
      have:=b5 x b;have:=C x c;omega)
     have ch:=V.size;have ci:=a8.size
     have bg:=XAs w.heap.size BA OA r u S T od ap ao au bf ar o b0 N Q P A Z v ag R (fun x b c=>by have:=G x b;have:=l x c;omega) (fun c=>by have:=l g c;simp at a3;omega))
  | (refine bg.mono ?_
     clear bg;rintro e j ⟨p,Fw,F',rfl,c2,a0,J,K,c4,c5⟩))
 have i:=c2.kO (Keep.refl [] j).drew;have cj:w.heap.size<w5.heap.size:=ap.lt;have c6:=a5.lt;have bh:=a4.lt;have ck:=J.lt;have a9:=J.ge;have cm:=a0.lt;have bi:∀ x∈F',x∈F\/w5.heap.size<=x:=c4
 have c7:∀ x∈n,x∉w.heap.size :: F:=fun x b c=>by
  rcases AM.1 c with rfl | c
  . exact v b
  exact H x c b
 have c8:∀ x∈Ft,x∉w.heap.size :: F:=fun x b c=>by
  rcases AM.1 c with rfl | c
  . exact ag b
  have:=G x b;have:=l x c;omega
 have c9:g∉w.heap.size :: F:=fun c=>by
  rcases AM.1 c with e | c
  . exact ah e
  have:=l g c;simp at a3;omega
 have bj:Keep (w.heap.size :: (n++F)) w2 j:=(a8.sub (fun x b=>by simp at b;simp;rcases b with b | b <;> simp[b])).trans (K.sub (fun x b=>by simp at b;simp;rcases b with b | b <;> simp[b])) (fun x b=>.inl b)
 have av:∀ {a1:Option Addr} {vc:Nat},w2.ownsRow w1.heap.size 3 1 (.slice a1 (pgs B) vc) (pgs B) (YL (List.replicate (pgs B) 0))->(∀ a,a1=some a->a.block<bw)->j.ownsRow w1.heap.size 3 1 (.slice a1 (pgs B) vc) (pgs B) (YL (List.replicate (pgs B) 0)):=fun {a1 vc} ho hl=>XB ho bj (fun x b c=>by
  have q:=(own_mem ho (g:=x) (by rw[b];simp)).1;have q2:=own_blk_ne ho U (by decide);rcases a1 with _ | a
  . simp[Value.ownBlock] at b
  simp[Value.ownBlock] at b;subst b;have q3:=hl a rfl;simp only[AM,AD] at c;rcases c with c | c | c
  . exact q2 (by simp[Value.ownBlock,c])
  . have:=C _ c;omega
  have:=l _ c;omega)
 have bk:=(Rd.of_own (av ae b6)).drew;have bl:=(Rd.of_own (av af ad)).drew;have bm:=(ao.keep K c7).kO (Keep.refl [] j).drew;have bn:=(au.keep K c8).kO (Keep.refl [] j).drew;have bo:=(ar.keep K c9).kO (Keep.refl [] j).drew;replace a0:=a0.kO (Keep.refl [] j).drew;replace J:=J.kO (Keep.refl [] j).drew
 have ca:Keep F w j.drew:=((((b1.tO ((Keep.refl [] _))).zero.trans ab iq).trans V iq).trans a8 (fun x b=>.inr (by
  rcases AM.1 b with rfl | b
  . omega
  . have:=E x b;omega))).trans K (fun x b=>by
  rcases AM.1 b with rfl | b
  . exact .inr Z
  exact .inl b) |>.tO (Keep.refl [] j).drew
 clear aa U a6 bc ap ac ai ak am bf aj al an ar a5 b8 bb ao a4 au ab V I Y a7 bj av ae af b9;refine ZT (fun X=>cl X (aq w.heap.size 1) (pq g)/\cl X (aq w.heap.size 7) (ii 1)/\cl X (aq w.heap.size 8) (ii 1)/\cl X (aq w.heap.size 9) (ii 1)/\cl X (aq w.heap.size 10) zz/\cl X (aq w.heap.size 11) zz/\cl X (aq w.heap.size 12) zz/\cl X (aq w.heap.size 13) zz/\cl X (aq w.heap.size 14) zz/\cl X (aq w.heap.size 15) (ii 1)/\cl X (aq w.heap.size 16) zz/\cl X (aq w.heap.size 17) (ii 1)/\cl X (aq w.heap.size 18) (.slice BA (pgs B) r)/\cl X (aq w.heap.size 19) (.slice OA (pgs B) u)/\cl X (aq w.heap.size 20) (.slice (some S) 8 T)/\cl X (aq w.heap.size 21) zz/\cl X (aq w.heap.size 22) (pq t)/\cl X (aq w.heap.size 23) (pq m)/\cl X (aq w.heap.size 24) (ii 1)/\cl X (aq w.heap.size 25) (ii 1)/\cl X (aq w.heap.size 26) zz/\cl X (aq w.heap.size 27) zz/\cl X (aq w.heap.size 28) zz/\cl X (aq w.heap.size 29) (ii 2)/\cl X (aq w.heap.size 30) (ii 1)/\cl X (aq w.heap.size 31) zz/\cl X (aq w.heap.size 32) zz/\cl X (aq w.heap.size 33) zz) 26 [[0,1,2,3,4,5,6,7,8,9,10,11,12,13,14,15,16,17,18,19,20,21,22,23,24,25]] ⟨uq (i.cell 1),uq (i.cell 7),uq (i.cell 8),uq (i.cell 9),uq (i.cell 10),uq (i.cell 11),uq (i.cell 12),uq (i.cell 13),uq (i.cell 14),uq (i.cell 15),uq (i.cell 16),uq (i.cell 17),uq (i.cell 18),uq (i.cell 19),uq (i.cell 20),uq (i.cell 21),uq (i.cell 22),uq (i.cell 23),uq (i.cell 24),uq (i.cell 25),uq (i.cell 26),uq (i.cell 27),uq (i.cell 28),uq (i.cell 29),uq (i.cell 30),uq (i.cell 31),uq (i.cell 32),uq (i.cell 33)⟩ ?_;simp only[PI];iterate 26 refine wG ?_
 refine KB ?_;have bp:=a0.lt;have bq:=J.lt;have br:=bm.lt;have bs:=bn.lt;have cn:=bo.lt;have co:w5.heap.size<=j.drew.heap.size:=K.size;generalize j.drew=w7 at *
 have bt:Calls prog 184 #[.pointer (some d),.pointer (some t),.pointer (some m),.pointer (some p),.pointer (some g),.int .i64 0,.agg #[.int .i64 1,.int .i64 1,.int .i64 1,.int .i64 0,.int .i64 0,.int .i64 0,.int .i64 0,.int .i64 0,.int .i64 1,.int .i64 0,.int .i64 1,.slice BA (pgs B) r,.slice OA (pgs B) u,.slice (some S) 8 T],.agg #[.int .i64 1,.int .i64 1,.int .i64 0,.int .i64 0,.int .i64 0,.int .i64 2,.int .i64 1,.int .i64 0,.int .i64 0,.int .i64 0]] w7 fun e w'=>∃ s L M,e=.returned (.pointer (some (aq s 0)))/\w7.heap.size<=s /\
  Blk w' s 146 #[.pointer (some d),.pointer (some g),.pointer (some t),.pointer (some m),.pointer (some p),.int .i64 1,.int .i64 1,.int .i64 0,.int .i64 0,.int .i64 0,.int .i64 2,.int .i64 1,.int .i64 0,.int .i64 0,.int .i64 0,.int .i64 0,L,M] /\
  w'.ownsRow w7.heap.size 3 1 L (pgs B) (YL (List.replicate (pgs B) 0))/\w'.ownsRow w7.heap.size 3 1 M (pgs B) (YL (List.replicate (pgs B) 0))/\kz w7 w':=
  VBl d t m p g 0 ⟨1,1,1,0,0,0,⟨0,0,1,0,1⟩⟩ r (List.replicate (pgs B) 0) u (List.replicate (pgs B) 0) (some S) 8 T bk bl Z ⟨1,1,0,0,0,2,1⟩
 clear bk bl;go_wp2_with (refine bt.mono ?_;clear bt;rintro e w8 ⟨s,L,M,rfl,cp,aw,ax,ay,y⟩);go_ret2;have cq:w.heap.size<g:=by simp at a3;omega
 have cr:=a2.lt;have z8:=y.size
 have bu:∀ x∈L.ownBlock.toList++M.ownBlock.toList,w7.heap.size<=x/\x≠s:=fun x b=>by
  rcases AD.1 b with b | b
  . exact⟨(own_mem ax b).1,fun e=>by subst e;exact own_blk_ne ax aw (by decide) (uq b)⟩
  exact⟨(own_mem ay b).1,fun e=>by subst e;exact own_blk_ne ay aw (by decide) (uq b)⟩
 have az:∀ x∈F',x<w.heap.size\/w5.heap.size<=x:=fun x b=>(bi x b).imp (l x) id
 have cb:LogIs w8 base d g t p F' Ft Fw B (JAl B D) us0 (List.replicate 8 0) ⟨⟨0,0,1,0,2⟩,[],[]⟩:=
  ⟨a0.kO y,bo.kO y,(bn.kO y).rebase Z,(J.kO y).rebase Z,
    fun x b f=>by(have:=az x b;have:=G x f;have:=bh x f;omega),fun x b f=>c5 x f b,fun x b f=>by(have:=bh x b;have:=a9 x f;omega),fun f=>by(have:=az g f;omega),fun f=>by(have:=G g f;omega),fun f=>by(have:=a9 g f;omega),
    by simp[PPos.Ok],o,b0,Q,Z⟩
 have cc:StoreIs w8 base s d g t p m F' Ft Fw n L M B (PS.mounted B D od):=by
  refine⟨aw,cb,(bm.kO y).rebase Z,by simp[PS.mounted],ZC ax Z,ZC ay Z,Z,Z,?_,?_,?_⟩
  . intro x b f
    have P:=c6 x b;have A:=E x b;simp only[AM,AD] at f;rcases f with rfl | f | f | f
    . omega
    . have:=az x f;omega
    . have:=b5 x f;have:=C x b;omega
    have:=a9 x f;omega
  . intro f
    simp only[AM,AD] at f;rcases f with f | f | f | f | f
    . omega
    . have:=bp s f;omega
    . have:=bs s f;omega
    . have:=bq s f;omega
    have:=br s f;omega
  intro x b f;obtain⟨P,A⟩:=bu x b;simp only[AM,AD] at f;rcases f with f | f | f | f | f | f
  . exact A f
  . omega
  . have:=bp x f;omega
  . have:=bs x f;omega
  . have:=bq x f;omega
  have:=br x f;omega
 refine⟨s,rfl,_,od,⟨g,t,p,m,F',Ft,Fw,n,L,M,cc,rfl⟩,ca.tO y,?_⟩;intro x b;simp only[ZN,AM,AD] at b;have cd:=fun h=>bu x (AD.2 h);rcases b with rfl | rfl | b | b | b | b | b
 . exact .inr Z
 . exact .inr Z
 . exact(bi x b).imp id (fun h=>Z)
 . exact .inr (by have:=G x b;omega)
 . exact .inr (by have:=a9 x b;omega)
 . exact .inr (by have:=E x b;omega)
 exact .inr (by have:=(cd b).1;omega)
inductive DoesL (B:Nat) (S:PS):List POp->PS->Prop where
 | nil:DoesL B S [] S
 | snoc {l:List POp} {o:POp} {S1 S2:PS} (h:DoesL B S l S1) (k:Does B S1 o S2):DoesL B S (l++[o]) S2
theorem FrSt.step {i g p:Nat} (h:FrSt w0 w B f r s d x Fs Fx ⟨S,i+1,XH g⟩) (z:1<=g) (a:S.st.view=1/\S.st.seq=i/\S.st.epoch=p) (C:Good B S i (2*i)) (hi:i<=40)
 (k b c e n:Nat) (xs:List UInt8) (A:Option Addr) (D:Nat) (N:Rd w A (25+n) (bys (QK k 1 (i+1) b c e 0 xs))) (O:OpMay k b c e n) (P:xs.length=n) (Q:b+max c 1<=B\/k=3) (E:Vg B ⟨k,b,c,e,xs⟩) (R:k=3->e=p+1) :
 Calls prog 63 #[pq f,.slice A (25+n) D] w fun F w'=>∃ (t:Option Addr) (y:Nat) (l m:List Nat) (S':PS),F=.returned (.tuple #[.slice t 25 y,zz])/\FrSt w0 w' B f r s d x l m ⟨S',i+1+1,XH g⟩ /\
  (S'.st.view=1/\S'.st.seq=i+1/\S'.st.epoch=QBq k p)/\(k=3->S'.st.done=i+1)/\Good B S' (i+1) (2*(i+1))/\Does B S ⟨k,b,c,e,xs⟩ S'/\Keep (YU r Fs Fx) w w'/\Grow w (YU r Fs Fx) (YU r l m):=by
 have a0:((1:Nat):Int)=(S.st.view:Nat):=by rw[a.1]
 refine QAK h.blk ((VBV w w0.heap.size r s d x Fs Fx B _ h.rep h.kept.size k b c e n (i+1) xs A D (by simp only;rw[a.1];exact N) O P Q Z i (2*i) C (by rw[Yn];omega) Z (show i+1<=1000000 from Z) (ZAr g B) sq (by simp;omega) (VAF _ _) E).mono ?_);rintro F w' ⟨v,l,m,a1,er,T,G,H,h4,I,J,K⟩;simp only[length_emptyW] at G H;have U:(i+1) % g<g:=CP _ z;rw[VAZ U _ rfl] at H;rcases QBl z (q:=⟨v,⟨k,b,c,e,xs⟩,true⟩) rfl G with⟨o,L,_,_⟩ | ⟨S',o,L,V⟩
 . exfalso
   apply L;have W:k=3:=by simp only at o;omega
   have:=R W;rw[a.2.2];simp only;omega
 obtain⟨X,j⟩:=o.good E C Z Z;obtain⟨Y,d2,d3,d4,d5,d6⟩:=QBm (st:=S.st) (k:=k) (b:=b) (c:=c) (e:=e) (xs:=xs);replace j:S'.st=QAW S.st ⟨k,b,c,e,xs⟩:=j;subst V;rcases K with⟨_,u,M,h9⟩ | ⟨K,_⟩
 . obtain⟨t,y,rfl,_⟩:=ZB h9
   exact⟨_,_,M,t,y,l,m,S',M,h.turn T I J,⟨by rw[j,Y,a.1],by rw[j,d3,a.2.1],by rw[j,d4,a.2.2]⟩,fun h=>by rw[j,d5 h,a.2.1],X,o,I,J⟩
 omega
theorem JBP (len n m:Nat) {a:PS} (OA:Option Addr) (zs:List (Int×Int×Int)) (h:FrSt w0 w B f r s d x F Fx ⟨a,0+1,XH m⟩) (hm:1<=m) (af:1<=B) (ag:B<=64) (hv:a.st.view=1/\a.st.seq=0/\a.st.epoch=0) (j:Good B a 0 0) (o:Ext B a) (ar:len<=40)
 (M:oz.map (·.2)=(JO B zs len).1) (b:OHold w b0 (YU r F Fx) (.slice OA len n) oz) :
 Calls prog 58 #[pq f,.slice OA len n] w fun e w'=>e=.returned (.bool true)/\∃ p t S',FrSt w0 w' B f r s d x p t ⟨S',len+1,XH m⟩/\(S'.st.view=1/\S'.st.seq=len/\S'.st.epoch=(JO B zs len).2)/\Good B S' len (2*len)/\Ext B S'/\S'.st.gen=a.st.gen /\
  DoesL B a (JO B zs len).1 S'/\OHold w' b0 (YU r p t) (.slice OA len n) oz/\Keep (YU r F Fx) w w'/\Grow w (YU r F Fx) (YU r p t):=by
 have a3:oz.length=len:=by have:=congrArg List.length M;rwa [BR,Jo] at this
 have ah:=JB M;have N:=JB a3;clear M a3;go_enter func58,ntmps58;go_wp2_with fail;go_loopw [5] (fun i wr=>∃ (k:Nat) (Fs v:List Nat) (S:PS),k<=len/\i=.int .i64 (k:Nat)/\FrSt w0 wr B f r s d x Fs v ⟨S,k+1,XH m⟩/\Hid (S.st.view=1/\S.st.seq=k/\S.st.epoch=(JO B zs k).2)/\Good B S k (2*k)/\Ext B S/\Hid (S.st.gen=a.st.gen)/\Hid (DoesL B a (JO B zs k).1 S)/\OHold wr b0 (YU r Fs v) (.slice OA len n) oz/\Keep (YU r F Fx) w wr/\Grow w (YU r F Fx) (YU r Fs v)) (fun i _=>len-(intOf i).toNat)
 case atStart=>exact⟨0,F,Fx,a,Z,rfl,h,hv,j,o,rfl,DoesL.nil,b,kq,Grow.refl _ _⟩
 clear h hv j o b;obtain⟨k,Fs,v,S,hk,rfl,a4,a5,j,o,a6,a7,b,O,P⟩:=hrel;by_cases Q:k<len
 . have R:k<oz.length:=by rw[JA N];exact Q
   obtain⟨z,C⟩:=ex (oz[k])
   have D:z.2=(QO B (zs.getD k (0,0,0)) (JO B zs k).2).1:=by
    have G:(oz.map (·.2))[k]? = some z.2:=by rw[Aa,AC R,C];rfl
    rw[JA ah,ZAg B zs len k Q] at G;exact(CD G).symm
   have au:=Xm B zs k;obtain⟨H,l,b1,a8,T,xs,U,I,ai⟩:=Xj B ⟨af,ag⟩ (zs.getD k (0,0,0)) (JO B zs k).2 Z;have g:=Zo B (zs.getD k (0,0,0)) (JO B zs k).2;have V:=Qy B zs k;rw[<- D] at U H g;rw[<- V] at g;have E:=b.data z (by rw[C];exact AQ R);have W:=b.rd (A:=OA) (c:=n) (by rw[JA N]);rw[JA N] at W;obtain⟨ob,oo,a9,av,X,Y,o2,o3,J⟩:=W.at_ Q R;rw[<- C] at X Y o2 o3 J;have a0:(JO B zs (k+1)).1=(JO B zs k).1++[z.2]:=by rw[D];rfl
   obtain⟨aw,po⟩:=z;simp only at U E X Y o2 o3 J D H g a0;subst U;simp only at E X Y o2 o3 J g;obtain⟨aj,dc,rfl,_,ax,_⟩:=ZB E
   have aa:(JO B zs (k+1)).2=QBq l (JO B zs k).2/\(l=3->T=(JO B zs k).2+1):=by
    unfold QBq;rcases g with⟨G,h2,h3⟩ | ⟨G,h2⟩
    . have:l=3:=Z
      exact⟨by rw[AP this,h3],fun _=>Z⟩
    have:¬ l=3:=Z;exact⟨by rw[AL this,h2],fun h=>absurd h this⟩
   have ab:=JB aa;have ak:=JB a0;have K:Calls prog 64 #[ii ((1:Nat):Int),ii (((k+1:Nat)):Int),.agg #[ii l,ii b1,ii a8,ii T,.slice aj xs.length dc]] wr _:=YAA 1 (k+1) dc xs Z Z I (Rd.of_own E) Z;rw[BO] at K;have ay:=JB D;have az:=JB C;have b2:=JB g;have b3:=JB V;have b4:=JB a9;clear D C g V aa W a0;subst a9;obtain⟨n1,a1⟩:=ex xs.length;rw[<- a1] at K I E J;have al:=JB a1;have b5:n1<=64:=by rcases I with⟨_,_,_,_,h⟩ | ⟨_,_,_,_,_,h⟩ | ⟨_,_,_,_,_,h⟩ <;> omega
   clear a1
   go_wp2_with (first
    | (go_at_call 64
       refine K.mono ?_;clear K;rintro e w5 ⟨u,rfl,hu,L⟩;obtain⟨am,uc,rfl,_⟩:=ZB hu
       have ac:=(a4.kO L).step hm (JA a5) j Z l b1 a8 T n1 xs am uc (Rd.of_own hu) I (JA al).symm ai H (JA ab).2)
    | (go_at_call 63
       refine ac.mono ?_;clear ac;rintro e w6 ⟨b6,vc,p,t,S',rfl,an,ao,_,ap,a2,ad,ae⟩))
   go_roundw
   case rel=>
    refine⟨k+1,p,t,S',Z,by go_num,an,?_,ap,a2.ext H j Z Z o,?_,?_,(b.kO L).turn ad (fun y hy=>hy) ae,(O.tO L).trans ad P,P.trans (O.tO L).size ae⟩
    . show _/\_/\_
      rw[(JA ab).1];exact ao
    . show S'.st.gen=_
      rw[<- JA a6];exact a2.gen
    show DoesL _ _ _ _;rw[JA ak];exact DoesL.snoc (JA a7) a2
   case measure=>simp[intOf];omega
 obtain rfl:k=len:=Z;go_wp2_with fail;go_ret;exact⟨rfl,Fs,v,S,a4,JA a5,j,o,JA a6,JA a7,b,O,P⟩
theorem VBX (d:1<=B/\B<=64) (zs:List (Int×Int×Int)) (i:j<=1000000):∃ k b c e xs,OpIs B (XAV B zs) j k b c e xs:=by
 have l:=Xm B zs j;obtain⟨f,k,b,c,e,xs,a,g,h⟩:=Xj B d (zs.getD j (0,0,0)) (JO B zs j).2 Z;exact⟨k,b,c,e,xs,a,g,h,by rw[<- a];exact f⟩
theorem JBS (B:Nat) (zs:List (Int×Int×Int)) (n:Nat):(JO B zs n).1=(List.range n).map (XAV B zs):=by
 induction n with
 | zero=>rfl
 | succ n ih=>
   rw[CF,BZ,<- ih];rfl
theorem QAw (B:Nat) (a:Nat->POp) (j d:Nat):(idl B a j).ep<=(idl B a (j+d)).ep/\((idl B a j).ep=(idl B a (j+d)).ep->(idl B a j).base=(idl B a (j+d)).base):=by
 induction d with
 | zero=>exact⟨AG _,fun _=>rfl⟩
 | succ d ih=>
   obtain⟨b,c⟩:=ih;have e:(idl B a (j+(d+1)))=(idl B a (j+d)).step (a (j+d)):=rfl;rw[e];simp only[PIdl.step]
   split
   . exact⟨b,c⟩
   split
   . exact⟨b,c⟩
   exact⟨by simp only;omega,fun h=>by simp only at h;omega⟩
theorem YAh {len:Nat} {a:Nat->POp} (c:j<=len) (h:j=len\/(idl B a len).ep<=(idl B a j).ep):(idl B a j).base=(idl B a len).base:=by
 obtain⟨d,rfl⟩:∃ d,len=j+d:=⟨len-j,Z⟩;obtain⟨e,b⟩:=QAw B a j d;rcases h with h | h
 . rw[<- h]
 exact b Z
theorem DoesL.stm (d:1<=B/\B<=64) (zs:List (Int×Int×Int)) (e:Stm B (XAV B zs) 0 S):∀ (n:Nat) (S':PS),n<=45->DoesL B S (JO B zs n).1 S'->Stm B (XAV B zs) n S':=by
 intro n
 induction n with
 | zero=>
   intro S' _ h;have b:(JO B zs 0).1=[]:=rfl;rw[b] at h;generalize a:([]:List POp)=l at h
   cases h with
   | nil=>exact e
   | snoc h k=>simp at a
 | succ n ih=>
   intro S' f h;have b:(JO B zs (n+1)).1=(JO B zs n).1++[XAV B zs n]:=rfl;rw[b] at h;generalize a:(JO B zs n).1++[XAV B zs n]=l at h
   cases h with
   | nil=>simp at a
   | snoc h k=>
     obtain⟨rfl,c⟩:=List.append_inj' a rfl;simp only[DR,DX] at c;subst c;exact(k.stm ((JBY d zs (len:=n+1) Z) n Z).1 (ih _ Z h) Z).1
theorem ZBS (B len d:Nat) (OA:Option Addr) (zs:List (Int×Int×Int)) (N:len<=60) (O:1<=B) (P:B<=64) (e:oz.map (·.2)=(JO B zs len).1) (E:OHold w b0 F (.slice OA len d) oz) :
 cq 61 #[.slice OA len d] w ((JO B zs len).2:Nat):=by
 have s:oz.length=len:=by have:=congrArg List.length e;rwa [BR,Jo] at this
 have G:=JB e;have f:=JB s;clear e s;go_enter func61,ntmps61;go_wp2_with fail;go_loopw [3,4] (fun n i wr=>∃ (k:Nat),k<=len/\i=.int .i64 (k:Nat)/\n=.int .i64 ((JO B zs k).2:Nat)/\w=wr) (fun _ i _=>len-(intOf i).toNat)
 case atStart=>exact⟨0,Z,rfl,rfl,rfl⟩
 obtain⟨k,Q,rfl,rfl,rfl⟩:=hrel;by_cases g:k<len
 . have t:k<oz.length:=by rw[JA f];exact g
   obtain⟨h,b⟩:=ex (oz[k])
   have j:h.2=(QO B (zs.getD k (0,0,0)) (JO B zs k).2).1:=by
    have u:(oz.map (·.2))[k]? = some h.2:=by rw[Aa,AC t,b];rfl
    rw[JA G,ZAg B zs len k g] at u;exact(CD u).symm
   have H:=Xm B zs k;have a:=Zo B (zs.getD k (0,0,0)) (JO B zs k).2;have l:=Qy B zs k;rw[<- j] at a;rw[<- l] at a;have m:=E.rd (A:=OA) (c:=d) (by rw[JA f]);rw[JA f] at m;obtain⟨R,S,v,T,y,I,J,K,L⟩:=m.at_ g t;rw[<- b] at y;obtain⟨U,M,V,W,X,xs⟩:=h;simp only at y a;have Y:=JB v;have z:=JB a;have a0:=JB j;have a1:=JB b;have a2:=JB l;clear j b l m I J K L a;subst v;obtain⟨q,o⟩:=ex ((JO B zs k).2);rw[<- o] at H ⊢;have C:=JB o;clear o;by_cases D:M=3
   . go_wp2_with fail
     go_roundw
     case rel=>
      refine⟨k+1,Z,by go_num,?_,trivial⟩;rcases JA z with⟨_,_,p⟩ | ⟨r,_⟩
      . rw[p,<- JA C];go_num
      exact absurd D r
     case measure=>simp[intOf];omega
   go_wp2_with fail;go_roundw
   case rel=>
    refine⟨k+1,Z,by go_num,?_,trivial⟩;rcases JA z with⟨r,_,_⟩ | ⟨_,p⟩
    . exact absurd r D
    rw[p,<- JA C]
   case measure=>simp[intOf];omega
 obtain rfl:k=len:=Z;go_wp2_with fail;go_ret;exact⟨rfl,rfl⟩
theorem VBU {n c:Nat} (h:FrP w0 w B f r s d x Fs S) {k:Nat} (v:Good B S k j) {y:Option Addr} {ls:List (Value×List UInt8)} (z:Rws w y n ls) (l:ls.map (·.2)=QD B S) (U:n<=64) :
 cr 65 #[pq f,.slice y n c] w (.bool true):=by
 have m:=z.len;have A:n=B:=by have:=congrArg List.length l;rw[BR,m] at this;rw[this];unfold QD;rw[BR,v.bl]
 have K:=JB l;have p:=JB m;have L:=JB A;clear l m A;go_enter func65,ntmps65;go_wp2_with fail;go_loopw [5] (fun i wr=>∃ (q:Nat),q<=n/\i=.int .i64 (q:Nat)/\kz w wr) (fun i _=>n-(intOf i).toNat)
 case atStart=>exact⟨0,Z,rfl,kq⟩
 obtain⟨q,V,rfl,g⟩:=hrel;by_cases a:q<n
 . have C:=(h.kO g).read k j v q (by rw[<- JA L];exact a)
   have M:=z.keep g
   go_wp2_with (first
    | (go_at_call 166
       refine C.mono ?_;clear C;rintro e w1 ⟨N,D,rfl,t,E⟩;obtain⟨b,o,F,W,O,G⟩:=(M.keep E).at_ a (by rw[JA p];exact a);have u:(QD B S).getD q []=(ls[q]'(by rw[JA p];exact a)).2:=by rw[<- JA K,AB,Aa,AC (by rw[JA p];exact a)];rfl
       rw[u] at t;have X:=JB u;have Y:=JB F;clear u;subst F;generalize ls[q]'_=lq at *;obtain⟨lv,H⟩:=lq;simp only at t O G;obtain⟨P,Q,I,rfl,a0,a1,R⟩:=G
       have J:cr 31 #[.slice N 64 D,.slice P Q I] w1 (.bool true):=(JAR D I H H (Rd.of_own t) R Z Z).mono (by rintro e w' ⟨rfl,k,rfl⟩;exact⟨sq,Keep.ofDrewN k⟩))
    | (go_at_call 31
       refine J.mono ?_;clear J;rintro e w2 ⟨rfl,T⟩))
   go_roundw;case rel=>exact⟨q+1,Z,by go_num,(g.tO E).tO T⟩
   case measure=>simp[intOf];omega
 obtain rfl:q=n:=Z;go_wp2_with fail;go_ret;exact⟨rfl,g⟩